/- The program's line, at a tick. -/
import Derived.Test.YtpppfeldnbjdpaaGreatDoorC2
set_option linter.unusedVariables false
namespace Go.Proofs.YtpppfeldnbjdpaaGreatDoor
open Go Go.RowKit

theorem own_lit {w : World} {base g : Nat} {e : TypeId} {xs : List Value} (hg : w.heap[g]? = some (.cells xs.toArray e (0, 0))) (hb : base ≤ g) (hm : xs.length ≤ maxLen) :
    w.ownsRow base e 1 (.slice (some ⟨g, 0, none⟩) xs.length xs.length) xs.length xs :=
  ⟨by simp, .inr ⟨g, xs.length, xs.toArray, rfl, hb, hg, Nat.le_refl _, hm, by simp, by simp⟩⟩

set_option maxHeartbeats 2000000 in
set_option maxRecDepth 100000 in
theorem line_tick (n : Nat) (hn : n ≤ 65535) (w : World) (hlaid : Laid w) :
    Calls Tryz.prog 32 #[.agg (tickC n)] w fun e w' => e = .returned (.string ⟨(tickL n ++ [10]).toArray⟩) ∧ Below w.heap.size w w' := by
  obtain ⟨i0, hi, hz0, hz1, hz2⟩ := info_parts info9
  have c0 : (tickC n)[0]? = some (.int .i64 2) := rfl
  have c1 : (tickC n)[1]? = some (.int .i64 n) := rfl
  have HL := Lib.hid hlaid
  clear hlaid
  go_enter Tryz.func32, Tryz.ntmps32
  go_wp2_with fail
  have hlw : Laid (((w.alloc (.cells (tickC n) 31)).alloc (.cells #[strV [116, 105, 99, 107]] 9)).alloc (.cells #[.int .i64 n] 3)) :=
    HL.out.below ((((Below.refl _ _).alloc (Nat.le_refl _) _).alloc (by simp) _).alloc (by simp; omega) _) HL.out.size
  have HLW := Lib.hid hlw
  clear hlw
  refine (numbers_any (w.heap.size + 2) 1 [(n : Int)] _ HLW.out (by simp) (by simp) (by simp) (by
    intro i hi
    have : i = 0 := by simpa using hi
    subst this
    exact cells_at (new_at _ _ _ (by simp)) 0) (by intro z hz; simp at hz; subst hz; omega)).mono ?_
  rintro e w1 ⟨⟨v, rfl, hown⟩, hb1⟩
  have hs1 := hb1.size
  simp at hs1
  obtain ⟨g, cap, rfl⟩ := Joins.ownsRow_form hown (by simp)
  have hlt := (hown.lt g rfl).1
  simp at hlt
  have hc1 := hown.cellAt 0 (by simp)
  simp only [List.map_cons, List.map_nil, numS_nat] at hc1
  have hO : w1.ownsRow w.heap.size 9 1 (.slice (some ⟨w.heap.size + 1, 0, none⟩) 1 1) 1 [strV [116, 105, 99, 107]] :=
    own_lit (xs := [strV [116, 105, 99, 107]]) ((hb1.block (w.heap.size + 1) (by simp)).trans (old_at (new_at _ _ _ (by simp)))) (by omega) (by simp [maxLen])
  have HO := Lib.hid hO
  have HB1 := Lib.hid hb1
  have HC1 := Lib.hid hc1
  clear hO hb1 hc1 hown
  go_wp2_with (at_builtin; refine wpList_append_own _ rfl _ _ 42 rfl w.heap.size 9 i0 (.string ⟨#[]⟩) 1 16 Tryz.underlying42 hi hz0 hz1 hz2 rfl (by decide) _ _ _ rfl HO.out ⟨g, 0, none⟩ 1 cap [strV (Lib.decDigits n)] rfl rfl ?c1 ?c2 ?c3 ?c4 ?c5 ?_)
  case c1 =>
    intro j u hj
    match j, hj with
    | 0, hj => simp at hj; subst hj; exact HC1.out
  case c2 => intro u hu; simp at hu; subst hu; rfl
  case c3 => unfold maxLen; omega
  case c4 => omega
  case c5 => omega
  intro v' w2 hown2 hgr _
  have hb2 : Below w.heap.size w1 w2 := grown_below HO.out hgr (Nat.le_refl _) (by omega)
  have hs2 := hb2.size
  obtain ⟨g2, cap2, rfl⟩ := Joins.ownsRow_form hown2 (by simp)
  have hlt2 := (hown2.lt g2 rfl).2
  have hcap2 : 2 ≤ cap2 := by
    obtain ⟨_, h0 | ⟨_, _, _, hv, _, _, hc, _⟩⟩ := hown2
    · cases h0.1
    · cases hv; exact hc
  have hcs : ∀ (j : Nat) (x : ByteArray), [(⟨#[116, 105, 99, 107]⟩ : ByteArray), ⟨(Lib.decDigits n).toArray⟩][j]? = some x → w2.cell? ⟨g2, 0 + j, none⟩ = some (.string x) := by
    intro j x hj
    match j, hj with
    | 0, hj => simp at hj; subst hj; exact hown2.cellAt 0 (by simp)
    | 1, hj => simp at hj; subst hj; exact hown2.cellAt 1 (by simp)
  have hj : Lib.join [[116, 105, 99, 107], Lib.decDigits n] [32] = tickL n := by simp [Lib.join, List.intercalate, tickL]
  have hlen := tickL_len n hn
  have HJ := Lib.hid (Tryz.strings_Join g2 0 cap2 [⟨#[116, 105, 99, 107]⟩, ⟨(Lib.decDigits n).toArray⟩] ⟨#[32]⟩ w2 hcs hlt2 (by simp) (by simpa using hcap2) (by
    simp only [List.map_cons, List.map_nil]
    rw [hj]; omega))
  have HJ2 := Lib.hid hj
  have HB2 := Lib.hid hb2
  have hs2' : w.heap.size ≤ w2.heap.size := by omega
  clear hj hown2 hgr hb2 hcs
  go_wp2_with fail
  refine HJ.out.mono ?_
  rintro e w3 ⟨rfl, hb3⟩
  have HB3 := Lib.hid hb3
  clear hb3
  simp only [List.map_cons, List.map_nil]
  rw [HJ2.out]
  go_wp2
  go_ret
  refine ⟨?_, ?_⟩
  · rw [← str_app]; rfl
  · refine Below.trans (b := w1) ?_ (HB2.out.trans (HB3.out.mono hs2'))
    refine Below.trans ?_ (HB1.out.mono (by simp; omega))
    exact (((Below.refl _ _).alloc (Nat.le_refl _) _).alloc (by simp) _).alloc (by simp; omega) _
end Go.Proofs.YtpppfeldnbjdpaaGreatDoor
