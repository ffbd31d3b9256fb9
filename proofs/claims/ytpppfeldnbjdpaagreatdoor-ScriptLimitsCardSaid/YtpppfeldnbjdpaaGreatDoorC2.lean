/- The program's numbers, at a list of numbers that is not empty: the words of them, in a row of the call's own. -/
import Derived.Test.YtpppfeldnbjdpaaGreatDoorC1
import Derived.LoopTactic
set_option linter.unusedVariables false
namespace Go.Proofs.YtpppfeldnbjdpaaGreatDoor
open Go Go.RowKit

/-- The cell of a word. -/
def strV (l : List UInt8) : Value := .string ⟨l.toArray⟩

theorem info9 : (Tryz.prog.info? 9).map (fun i => (i.zero, i.size, i.bytes)) = some (some (.string ⟨#[]⟩), 1, 16) := by kernel_rfl

set_option maxHeartbeats 1000000 in
set_option maxRecDepth 100000 in
theorem numbers_any (b c : Nat) (zs : List Int) (w : World) (hlaid : Laid w) (hb : b < w.heap.size) (hz : 0 < zs.length) (hmax : zs.length ≤ 1000)
    (hcell : ∀ i, i < zs.length → w.cell? ⟨b, i, none⟩ = some (.int .i64 (zs.getD i 0))) (hwf : ∀ z ∈ zs, -9223372036854775808 ≤ z ∧ z ≤ 9223372036854775807) :
    Calls Tryz.prog 72 #[.slice (some ⟨b, 0, none⟩) zs.length c] w fun e w' => (∃ v, e = .returned v ∧ w'.ownsRow w.heap.size 9 1 v zs.length (zs.map fun z => strV (numS z))) ∧ Below w.heap.size w w' := by
  obtain ⟨i0, hi, hz0, hz1, hz2⟩ := info_parts info9
  have HC := Lib.hid hcell
  have HW := Lib.hid hwf
  have HL := Lib.hid hlaid
  clear hcell hwf hlaid
  generalize hn : zs.length = n at *
  have HN := Lib.hid hn
  clear hn
  go_enter Tryz.func72, Tryz.ntmps72
  go_wp2
  go_loopw [3, 8] (fun v i wr => ∃ k : Nat, k ≤ n ∧ i = .int .i64 k ∧ wr.ownsRow w.heap.size 9 1 v k ((zs.map fun z => strV (numS z)).take k) ∧ Below w.heap.size w wr) (fun _ i _ => n - (intOf i).toNat)
  case atStart => exact ⟨0, Nat.zero_le _, rfl, by simpa using World.ownsRow_nil _ _ _ _, Below.refl _ _⟩
  case round =>
    obtain ⟨k, hk, rfl, hown, hbw⟩ := hrel
    by_cases hlt : k < n
    · have hz' : zs.getD k 0 ∈ zs := by
        rw [List.getD_eq_getElem?_getD, List.getElem?_eq_getElem (by rw [HN.out]; exact hlt)]; exact List.getElem_mem _
      have hzk := HW.out _ hz'
      have hck : wr.cell? ⟨b, k, none⟩ = some (.int .i64 (zs.getD k 0)) := (hbw.cell (p := ⟨b, k, none⟩) hb).trans (HC.out k hlt)
      have hnext : (zs.map (fun z => strV (numS z))).take (k + 1) = (zs.map (fun z => strV (numS z))).take k ++ [strV (numS (zs.getD k 0))] := by
        rw [List.take_succ_eq_append_getElem (by simpa [HN.out] using hlt)]
        simp [List.getD_eq_getElem?_getD, List.getElem?_eq_getElem (show k < zs.length by rw [HN.out]; exact hlt)]
      have HX := Lib.hid hnext
      clear hnext hz'
      generalize zs.getD k 0 = z at *
      have hlr : Laid wr := HL.out.below hbw HL.out.size
      have HLR := Lib.hid hlr
      have HO := Lib.hid hown
      have HBW := Lib.hid hbw
      have hsz := hbw.size
      clear hlr hown hbw
      go_wp2_with fail
      refine (number_any z hzk.1 hzk.2 _ HLR.out).mono ?_
      rintro e w1 ⟨rfl, hb1⟩
      have hs1 := hb1.size
      have HO1 := Lib.hid (own_below HO.out hb1)
      have HB1 := Lib.hid hb1
      clear hb1
      go_wp2_with (at_builtin; refine wpList_append_own _ rfl _ _ 42 rfl w.heap.size 9 i0 (.string ⟨#[]⟩) 1 16 Tryz.underlying42 hi hz0 hz1 hz2 rfl (by decide) _ _ _ rfl (HO1.out.alloc _) ⟨w1.heap.size, 0, none⟩ 1 1 [strV (numS z)] rfl rfl ?c1 ?c2 ?c3 ?c4 ?c5 ?_)
      case c1 =>
        intro j u hj
        match j, hj with
        | 0, hj => simp at hj; subst hj; simp [Addr.add, strV]
      case c2 => intro u hu; simp at hu; subst hu; rfl
      case c3 => unfold maxLen; omega
      case c4 => omega
      case c5 => simp; omega
      intro v' w2 hown2 hgr _
      have hb2 := grown_below (HO1.out.alloc (.cells #[strV (numS z)] 9)) hgr (Nat.le_refl _) (by simp; omega)
      have HO2 := Lib.hid hown2
      have HB2 := Lib.hid hb2
      clear hown2 hgr hb2
      go_wp2
      go_roundw
      case rel =>
        refine ⟨k + 1, by omega, by go_num, by rw [HX.out]; exact HO2.out, ?_⟩
        exact (HBW.out.trans (HB1.out.mono hsz)).trans (((Below.refl _ _).alloc (by omega) _).trans HB2.out)
      case measure => simp [intOf]; omega
    · have hkn : k = n := by omega
      subst hkn
      have HO := Lib.hid hown
      have HBW := Lib.hid hbw
      clear hown hbw
      go_wp2
      go_ret
      refine ⟨⟨_, rfl, ?_⟩, HBW.out⟩
      have := HO.out
      rw [List.take_of_length_le (by simp [HN.out])] at this
      exact this
end Go.Proofs.YtpppfeldnbjdpaaGreatDoor
