/- The program's line, at the sane text's alert. -/
import Derived.Test.YtpppfeldnbjdpaaGreatDoorF6
import Derived.Test.YtpppfeldnbjdpaaGreatDoorB6
set_option linter.unusedVariables false
namespace Go.Proofs.YtpppfeldnbjdpaaGreatDoor
open Go Go.RowKit

def sTab (t : List (List Nat)) (i j : Nat) : Bool := (t.getD i []).contains j

/-- A row of strings made by the call. -/
def NewRow (B n : Nat) (cs : Array Value) (v : Value) (w : World) : Prop := ∃ g, v = .slice (some ⟨g, 0, none⟩) n n ∧ B ≤ g ∧ w.heap[g]? = some (.cells cs 9 (0, 0))

theorem NewRow.step {B n : Nat} {cs : Array Value} {v : Value} {w w' : World} (h : NewRow B n cs v w) (hb : Below w.heap.size w w') : NewRow B n cs v w' := by
  obtain ⟨g, h1, h2, h3⟩ := h
  exact ⟨g, h1, h2, Kept.at hb h3⟩

/-- The line of the alert. -/
def alLine : List UInt8 := [97, 108, 101, 114, 116, 32] ++ alertL
theorem numS_40 : numS 40 = [52, 48] := by unfold numS; rw [if_neg (by decide)]; exact itoa_40
theorem number_40 (w : World) (hl : Laid w) : Calls Tryz.prog 70 #[.int .i64 40] w fun e w' => e = .returned (.string ⟨#[52, 48]⟩) ∧ Below w.heap.size w w' :=
  (number_any 40 (by omega) (by omega) w hl).mono fun e w' ⟨h1, h2⟩ => ⟨by rw [h1, numS_40], h2⟩
theorem join_alert : Lib.join [[97, 108, 101, 114, 116], [52, 48], [102, 105, 114, 105, 110, 103], labL] [32] = alLine := by rfl
theorem alLine_len : alLine.length ≤ 100 := by decide

set_option maxHeartbeats 1000000 in
set_option maxRecDepth 100000 in
theorem line_alert (b c : Nat) (hc1 : 1 ≤ c) (w : World) (hlaid : Laid w) (hb : b < w.heap.size) (hr : w.rangeAt b 0 labC.toList) :
    Calls Tryz.prog 32 #[.agg (alertC b c)] w fun e w' => e = .returned (.string ⟨(alLine ++ [10]).toArray⟩) ∧ Below w.heap.size w w' := by
  obtain ⟨i0, hi, hz0, hz1, hz2⟩ := info_parts info9
  have c0 : (alertC b c)[0]? = some (.int .i64 1) := rfl
  have c1 : (alertC b c)[1]? = some (.int .i64 40) := rfl
  have c3 : (alertC b c)[3]? = some (.slice (some ⟨b, 0, none⟩) 1 c) := rfl
  have c4 : (alertC b c)[4]? = some (.bool true) := rfl
  have HL := Lib.hid hlaid
  have HR := Lib.hid hr
  clear hlaid hr
  go_enter Tryz.func32, Tryz.ntmps32
  go_upto_region 8 with fail
  have hA : (w.alloc (.cells (alertC b c) 31)).heap[w.heap.size]? = some (.cells (alertC b c) 31 (0, 0)) := new_at _ _ _ rfl
  have H1 : Hid (∀ w', Kept (w.alloc (.cells (alertC b c) 31)) w' → w'.cell? ⟨w.heap.size, 1, none⟩ = some (.int .i64 40)) := Lib.hid fun w' hw' => hw'.cell ((cells_at hA 1).trans c1)
  have H3 : Hid (∀ w', Kept (w.alloc (.cells (alertC b c) 31)) w' → w'.cell? ⟨w.heap.size, 3, none⟩ = some (.slice (some ⟨b, 0, none⟩) 1 c)) := Lib.hid fun w' hw' => hw'.cell ((cells_at hA 3).trans c3)
  have hB0 : Below w.heap.size w (w.alloc (.cells (alertC b c) 31)) := (Below.refl _ _).alloc (Nat.le_refl _) _
  have HK : Hid (∀ w', Kept (w.alloc (.cells (alertC b c) 31)) w' → Below w.heap.size w w') := Lib.hid fun w' hw' => hB0.trans (hw'.mono hB0.size)
  have HLD : Hid (∀ w', Kept (w.alloc (.cells (alertC b c) 31)) w' → Laid w') := Lib.hid fun w' hw' => HL.out.below (HK.out w' hw') HL.out.size
  have HLB : Hid (∀ w', Kept (w.alloc (.cells (alertC b c) 31)) w' → b < w'.heap.size ∧ w'.rangeAt b 0 labC.toList) := Lib.hid fun w' hw' => ⟨Nat.lt_of_lt_of_le hb (HK.out w' hw').size, range_below HR.out hb (HK.out w' hw')⟩
  have hsz : (w.alloc (.cells (alertC b c) 31)).heap.size = w.heap.size + 1 := by simp
  have HSZ := Lib.hid hsz
  generalize w.alloc (.cells (alertC b c) 31) = w0 at *
  clear hA c0 c1 c3 c4 hsz
  refine region_walk 10 (Kept w0) (fun w1 w2 => Below w1.heap.size w1 w2)
    (fun k => match k with | 1 => some (.pointer (some ⟨w.heap.size, 1, none⟩)) | 2 => some (.int .i64 40) | 3 => some (.string ⟨#[52, 48]⟩) | 4 => some (.string ⟨#[102, 105, 114, 105, 110, 103]⟩) | 5 => some (.pointer (some ⟨w.heap.size, 2, none⟩)) | 6 => some (.pointer (some ⟨w.heap.size, 3, none⟩)) | 7 => some (.slice (some ⟨b, 0, none⟩) 1 c) | 8 => some (.string ⟨labL.toArray⟩) | _ => none)
    (fun k => NewRow w.heap.size (if k = 0 then 1 else 3) (if k = 0 then #[.string ⟨#[97, 108, 101, 114, 116]⟩] else #[.string ⟨#[52, 48]⟩, .string ⟨#[102, 105, 114, 105, 110, 103]⟩, .string ⟨labL.toArray⟩]))
    (sTab [[], [], [1], [1, 2], [], [], [5], [5, 6], [5, 6, 7], [1, 2, 3, 4, 5, 6, 7, 8], [0, 1, 2, 3, 4, 5, 6, 7, 8, 9], [0, 1, 2, 3, 4, 5, 6, 7, 8, 9, 10]])
    (by kernel_rfl) (by kernel_rfl) (by kernel_rfl) (Kept.drewn _ _) (fun w1 w2 h1 h2 => h1.step h2) (fun k v w1 w2 _ h1 h2 => h1.step h2) ?_
  simp only [List.take_succ_cons, List.take_zero, List.drop_succ_cons, List.drop_zero]
  refine ⟨fun w1 hD hc Q hQ => ?_, fun v0 => ?_⟩
  · simp only [Act.put, List.setIfInBounds_toArray, List.set_cons_zero, List.set_cons_succ] at hQ
    go_wp2
    have h0 : NewRow w.heap.size 1 #[.string ⟨#[97, 108, 101, 114, 116]⟩] (.slice (some ⟨w1.heap.size, 0, none⟩) 1 1) (w1.alloc (.cells #[.string ⟨#[97, 108, 101, 114, 116]⟩] 9)) := ⟨w1.heap.size, rfl, (HK.out w1 hD).size, new_at _ _ _ rfl⟩
    exact hQ _ _ ((Below.refl _ _).alloc (Nat.le_refl _) _) h0
  simp only [Act.put, List.setIfInBounds_toArray, List.set_cons_zero, List.set_cons_succ]
  refine ⟨fun w1 hD hc Q hQ => ?_, ?_⟩
  · simp only [Act.put, List.setIfInBounds_toArray, List.set_cons_zero, List.set_cons_succ] at hQ
    go_wp2
    exact hQ _ _ (Below.refl _ _) rfl
  simp only [Act.put, List.setIfInBounds_toArray, List.set_cons_zero, List.set_cons_succ]
  refine ⟨fun w1 hD hc Q hQ => ?_, ?_⟩
  · simp only [Act.put, List.setIfInBounds_toArray, List.set_cons_zero, List.set_cons_succ] at hQ
    have h1 := H1.out w1 hD
    go_wp2
    exact hQ _ _ (Below.refl _ _) rfl
  simp only [Act.put, List.setIfInBounds_toArray, List.set_cons_zero, List.set_cons_succ]
  refine ⟨fun w1 hD hc Q hQ => ?_, ?_⟩
  · simp only [Act.put, List.setIfInBounds_toArray, List.set_cons_zero, List.set_cons_succ] at hQ
    go_wp2_with (refine (number_40 w1 (HLD.out w1 hD)).mono ?_; rintro e w2 ⟨rfl, hb2⟩)
    exact hQ _ _ hb2 rfl
  simp only [Act.put, List.setIfInBounds_toArray, List.set_cons_zero, List.set_cons_succ]
  refine ⟨fun w1 hD hc Q hQ => ?_, ?_⟩
  · simp only [Act.put, List.setIfInBounds_toArray, List.set_cons_zero, List.set_cons_succ] at hQ
    go_wp2
    exact hQ _ _ (Below.refl _ _) rfl
  simp only [Act.put, List.setIfInBounds_toArray, List.set_cons_zero, List.set_cons_succ]
  refine ⟨fun w1 hD hc Q hQ => ?_, ?_⟩
  · simp only [Act.put, List.setIfInBounds_toArray, List.set_cons_zero, List.set_cons_succ] at hQ
    go_wp2
    exact hQ _ _ (Below.refl _ _) rfl
  simp only [Act.put, List.setIfInBounds_toArray, List.set_cons_zero, List.set_cons_succ]
  refine ⟨fun w1 hD hc Q hQ => ?_, ?_⟩
  · simp only [Act.put, List.setIfInBounds_toArray, List.set_cons_zero, List.set_cons_succ] at hQ
    go_wp2
    exact hQ _ _ (Below.refl _ _) rfl
  simp only [Act.put, List.setIfInBounds_toArray, List.set_cons_zero, List.set_cons_succ]
  refine ⟨fun w1 hD hc Q hQ => ?_, ?_⟩
  · simp only [Act.put, List.setIfInBounds_toArray, List.set_cons_zero, List.set_cons_succ] at hQ
    have h3 := H3.out w1 hD
    go_wp2
    exact hQ _ _ (Below.refl _ _) rfl
  simp only [Act.put, List.setIfInBounds_toArray, List.set_cons_zero, List.set_cons_succ]
  refine ⟨fun w1 hD hc Q hQ => ?_, ?_⟩
  · simp only [Act.put, List.setIfInBounds_toArray, List.set_cons_zero, List.set_cons_succ] at hQ
    go_wp2_with (refine (text_host b c hc1 w1 (HLD.out w1 hD) (HLB.out w1 hD).1 (HLB.out w1 hD).2).mono ?_; rintro e w2 ⟨rfl, hb2⟩)
    exact hQ _ _ hb2 rfl
  simp only [Act.put, List.setIfInBounds_toArray, List.set_cons_zero, List.set_cons_succ]
  refine ⟨fun w1 hD hc Q hQ => ?_, fun v9 => ?_⟩
  · simp only [Act.put, List.setIfInBounds_toArray, List.set_cons_zero, List.set_cons_succ] at hQ
    go_wp2
    have h0 : NewRow w.heap.size 3 #[.string ⟨#[52, 48]⟩, .string ⟨#[102, 105, 114, 105, 110, 103]⟩, .string ⟨labL.toArray⟩] (.slice (some ⟨w1.heap.size, 0, none⟩) 3 3) (w1.alloc (.cells #[.string ⟨#[52, 48]⟩, .string ⟨#[102, 105, 114, 105, 110, 103]⟩, .string ⟨labL.toArray⟩] 9)) := ⟨w1.heap.size, rfl, (HK.out w1 hD).size, new_at _ _ _ rfl⟩
    exact hQ _ _ ((Below.refl _ _).alloc (Nat.le_refl _) _) h0
  simp only [Act.put, List.setIfInBounds_toArray, List.set_cons_zero, List.set_cons_succ]
  intro w1 hD hA
  obtain ⟨h9, h0, -⟩ := hA
  have h9' : NewRow w.heap.size 3 #[.string ⟨#[52, 48]⟩, .string ⟨#[102, 105, 114, 105, 110, 103]⟩, .string ⟨labL.toArray⟩] v9 w1 := h9
  have h0' : NewRow w.heap.size 1 #[.string ⟨#[97, 108, 101, 114, 116]⟩] v0 w1 := h0
  clear h9 h0
  obtain ⟨g9, rfl, hg9, hh9⟩ := h9'
  obtain ⟨g0, rfl, hg0, hh0⟩ := h0'
  have hO : w1.ownsRow w.heap.size 9 1 (.slice (some ⟨g0, 0, none⟩) 1 1) 1 [strV [97, 108, 101, 114, 116]] := own_lit (xs := [strV [97, 108, 101, 114, 116]]) hh0 (by omega) (by simp [maxLen])
  have HO := Lib.hid hO
  have HB1 := Lib.hid (HK.out w1 hD)
  have HC9 : Hid (∀ j v, (#[.string ⟨#[52, 48]⟩, .string ⟨#[102, 105, 114, 105, 110, 103]⟩, .string ⟨labL.toArray⟩] : Array Value)[j]? = some v → w1.cell? ⟨g9, j, none⟩ = some v) := Lib.hid fun j v hj => (cells_at hh9 j).trans hj
  have hs1 := HB1.out.size
  have HL1 := Lib.hid (HLD.out w1 hD)
  clear hO hh0 hh9 hD H1 H3 HK HLD HLB HSZ hB0
  go_wp2_with (at_builtin; refine wpList_append_own _ rfl _ _ 42 rfl w.heap.size 9 i0 (.string ⟨#[]⟩) 1 16 Tryz.underlying42 hi hz0 hz1 hz2 rfl (by decide) _ _ _ rfl HO.out ⟨g9, 0, none⟩ 3 3 [strV [52, 48], strV [102, 105, 114, 105, 110, 103], strV labL] rfl rfl ?c1 ?c2 ?c3 ?c4 ?c5 ?_)
  case c1 =>
    intro j u hj
    have h2 := HC9.out j u (by simpa [strV] using hj)
    rw [show ((⟨g9, 0, none⟩ : Addr).add j) = ⟨g9, j, none⟩ by unfold Addr.add; split <;> simp_all]
    exact h2
  case c2 => intro u hu; simp at hu; rcases hu with rfl | rfl | rfl <;> rfl
  case c3 => unfold maxLen; omega
  case c4 => omega
  case c5 => omega
  intro v' w2 hown2 hgr _
  have hb2 : Below w.heap.size w1 w2 := grown_below HO.out hgr (Nat.le_refl _) (by omega)
  have hs2 := hb2.size
  obtain ⟨g2, cap2, rfl⟩ := Joins.ownsRow_form hown2 (by simp)
  have hlt2 := (hown2.lt g2 rfl).2
  have hcap2 : 4 ≤ cap2 := by
    obtain ⟨_, h0 | ⟨_, _, _, hv, _, _, hc, _⟩⟩ := hown2
    · cases h0.1
    · cases hv; exact hc
  have hcs : ∀ (j : Nat) (x : ByteArray), [(⟨#[97, 108, 101, 114, 116]⟩ : ByteArray), ⟨#[52, 48]⟩, ⟨#[102, 105, 114, 105, 110, 103]⟩, ⟨labL.toArray⟩][j]? = some x → w2.cell? ⟨g2, 0 + j, none⟩ = some (.string x) := by
    intro j x hj
    match j, hj with
    | 0, hj => simp at hj; subst hj; exact hown2.cellAt 0 (by simp)
    | 1, hj => simp at hj; subst hj; exact hown2.cellAt 1 (by simp)
    | 2, hj => simp at hj; subst hj; exact hown2.cellAt 2 (by simp)
    | 3, hj => simp at hj; subst hj; exact hown2.cellAt 3 (by simp)
  have hlen := alLine_len
  have HJ := Lib.hid (Tryz.strings_Join g2 0 cap2 [⟨#[97, 108, 101, 114, 116]⟩, ⟨#[52, 48]⟩, ⟨#[102, 105, 114, 105, 110, 103]⟩, ⟨labL.toArray⟩] ⟨#[32]⟩ w2 hcs hlt2 (by simp) (by simpa using hcap2) (by
    simp only [List.map_cons, List.map_nil]
    rw [join_alert]; omega))
  have HJ2 := Lib.hid join_alert
  have HB2 := Lib.hid (HB1.out.trans hb2)
  clear hown2 hgr hcs hb2
  go_wp2_with fail
  refine HJ.out.mono ?_
  rintro e w4 ⟨rfl, hb4⟩
  have HB4 := Lib.hid (HB2.out.trans (hb4.mono HB2.out.size))
  clear hb4 HJ
  simp only [List.map_cons, List.map_nil]
  rw [HJ2.out]
  go_wp2
  go_ret
  refine ⟨?_, HB4.out⟩
  rw [← str_app]
  rfl
end Go.Proofs.YtpppfeldnbjdpaaGreatDoor
