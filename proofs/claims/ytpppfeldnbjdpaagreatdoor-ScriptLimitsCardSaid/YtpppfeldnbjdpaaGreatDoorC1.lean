/- What the laid tables give a walk; the program's number and numbers. -/
import Derived.Test.YtpppfeldnbjdpaaGreatDoorShelf
import Derived.Test.YtpppfeldnbjdpaaGreatDoorA4
import Derived.WalkSmall
import Derived.Lib.AppendIntMem
import Derived.Lib.SmallJoins
set_option linter.unusedVariables false
namespace Go.Proofs.YtpppfeldnbjdpaaGreatDoor
open Go Go.RowKit

theorem gTab : Tryz.prog.globalNamed "internal/strconv.uint64pow10" = some 1 := by kernel_rfl

/-- What a walk asks of the laid variables. -/
structure Laid (w : World) : Prop where
  tab : Lib.TabIs Tryz.prog w "internal/strconv.uint64pow10" .u64 Lib.pow10Tab
  mx : ∃ m, w.cell? ⟨0, 0, none⟩ = some (.int .i64 m)
  size : 8 ≤ w.heap.size

theorem Laid.below {w w' : World} {B : Nat} (h : Laid w) (hb : Below B w w') (hB : 8 ≤ B) : Laid w' := by
  obtain ⟨m, hm⟩ := h.mx
  exact ⟨var?_below hb gTab (by omega) h.tab, ⟨m, (hb.cell (p := ⟨0, 0, none⟩) (by show 0 < B; omega)).trans hm⟩, Nat.le_trans h.size hb.size⟩

/-- The word of a number. -/
def numS (n : Int) : List UInt8 := if n = -1 then [45] else Lib.itoa n

theorem itoa_nat (n : Nat) : Lib.itoa (n : Int) = Lib.decDigits n := by simp [Lib.itoa]
theorem numS_nat (n : Nat) : numS (n : Int) = Lib.decDigits n := by
  unfold numS
  rw [if_neg (by omega), itoa_nat]

set_option maxHeartbeats 400000 in
theorem number_any (n : Int) (h0 : -9223372036854775808 ≤ n) (h1 : n ≤ 9223372036854775807) (w : World) (hl : Laid w) :
    Calls Tryz.prog 70 #[.int .i64 n] w fun e w' => e = .returned (.string ⟨(numS n).toArray⟩) ∧ Below w.heap.size w w' := by
  have htab := Lib.hid hl.tab
  clear hl
  by_cases h : n = -1
  · subst h
    go_enter Tryz.func70, Tryz.ntmps70
    go_wp2
    go_ret
    exact ⟨rfl, Below.refl _ _⟩
  · have hn : numS n = Lib.itoa n := by simp [numS, h]
    have HN := Lib.hid hn
    clear hn
    have hb : (n == -1) = false := by simpa using h
    go_enter Tryz.func70, Tryz.ntmps70
    go_wp2_with (go_at_call 55; refine (Tryz.strconv_Itoa _ h0 h1 _ htab.out).mono ?_; rintro e w' ⟨rfl, k, os, rfl⟩)
    go_ret
    exact ⟨by rw [HN.out]; rfl, Lib.below_grow _ _ (Nat.le_refl _) _ _⟩
end Go.Proofs.YtpppfeldnbjdpaaGreatDoor
