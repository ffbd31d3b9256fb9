/- Plain laws on the text of equal ticks and on the row of their acts. -/
import Derived.Test.YtpppfeldnbjdpaaGreatDoorD6
import Derived.Test.YtpppfeldnbjdpaaGreatDoorC7
set_option linter.unusedVariables false
namespace Go.Proofs.YtpppfeldnbjdpaaGreatDoor
open Go Go.RowKit

theorem ticksL_cons (n : Nat) : ∀ k, ticksL n (k + 1) = tickL n ++ (10 :: ticksL n k)
  | 0 => by simp [ticksL]
  | k + 1 => by
    show ticksL n (k + 1) ++ (tickL n ++ [10]) = tickL n ++ 10 :: (ticksL n k ++ (tickL n ++ [10]))
    rw [ticksL_cons n k]
    simp

theorem tickL_line (n : Nat) : (10 : UInt8) ∉ tickL n := by
  unfold tickL
  intro h
  rcases List.mem_append.1 h with h | h
  · revert h; decide
  · exact dec_line n h

theorem cut_ticks (n k : Nat) : Lib.cut (ticksL n (k + 1)) [10] = (tickL n, ticksL n k, true) := by
  rw [ticksL_cons]
  have := cut_at (a := tickL n) (b := ticksL n k) (c := 10) (tickL_line n)
  simpa using this

theorem ticksL_ne (n k : Nat) : (ticksL n (k + 1)).isEmpty = false := by
  rw [ticksL_cons]; simp [tickL]

/-- The cells of k equal ticks. -/
def actsRow (n : Nat) : Nat → List Value
  | 0 => []
  | k + 1 => actsRow n k ++ (tickC n).toList
theorem actsRow_len (n : Nat) : ∀ k, (actsRow n k).length = k * 21
  | 0 => by simp [actsRow]
  | k + 1 => by simp [actsRow, actsRow_len n k, tickC]; omega
theorem actsRow_at (n : Nat) : ∀ (k i j : Nat) (v : Value), i < k → (tickC n).toList[j]? = some v → (actsRow n k)[i * 21 + j]? = some v
  | 0, i, j, v, h, _ => absurd h (Nat.not_lt_zero _)
  | k + 1, i, j, v, h, hv => by
    have hj : j < 21 := by
      have := (List.getElem?_eq_some_iff.1 hv).1
      simpa [tickC] using this
    have hl := actsRow_len n k
    rw [actsRow]
    by_cases hik : i < k
    · rw [List.getElem?_append_left (by rw [hl]; omega)]
      exact actsRow_at n k i j v hik hv
    · have : i = k := by omega
      subst this
      rw [List.getElem?_append_right (by rw [hl]; omega), hl, Nat.add_sub_cancel_left]
      exact hv

theorem tickRow_of_own {w : World} {B n k b cap : Nat} (h : w.ownsRow B 31 21 (.slice (some ⟨b, 0, none⟩) k cap) k (actsRow n k)) : TickRow n k b w := fun i hi j v hj => by
  have hat := actsRow_at n k i j v hi hj
  have hlt := (List.getElem?_eq_some_iff.1 hat).1
  have := h.cellAt (i * 21 + j) (by rw [actsRow_len] at hlt; exact hlt)
  rw [this]
  exact hat
end Go.Proofs.YtpppfeldnbjdpaaGreatDoor
