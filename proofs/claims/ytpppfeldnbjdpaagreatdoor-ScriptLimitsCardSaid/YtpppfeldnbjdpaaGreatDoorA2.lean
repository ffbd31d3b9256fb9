/- The reference's Decimal, at whatever number from 0 on: the decimal digits. -/
import Derived.Test.YtpppfeldnbjdpaaGreatDoorA1
import Derived.Lib.ItoaNum
import Derived.Laws.IdiomStrings
import Derived.Deep.LoopGhost
set_option linter.unusedVariables false
namespace Go.Proofs.YtpppfeldnbjdpaaGreatDoor
open Go Go.RowKit

/-- What is still to be laid ahead of the digits that are there. -/
def decRest (m : Nat) (s : List UInt8) : List UInt8 := if m = 0 ∧ s ≠ [] then s else Lib.decDigits m ++ s

theorem decRest_step (m : Nat) (s : List UInt8) (h : m ≠ 0 ∨ s = []) : decRest (m / 10) (UInt8.ofNat (48 + m % 10) :: s) = decRest m s := by
  unfold decRest
  by_cases h10 : m < 10
  · have h1 : m / 10 = 0 := by omega
    rw [if_pos ⟨h1, by simp⟩]
    rw [if_neg (by rintro ⟨h0, hs⟩; rcases h with h | h <;> contradiction)]
    rw [Lib.decDigits, dif_pos h10]
    have : m % 10 = m := by omega
    rw [this]; rfl
  · rw [if_neg (by omega), if_neg (by omega)]
    conv => rhs; rw [Lib.decDigits, dif_neg h10]
    simp

theorem decDigits_len : ∀ (k u : Nat), u < 10 ^ (k + 1) → (Lib.decDigits u).length ≤ k + 1
  | 0, u, h => by rw [Lib.decDigits, dif_pos (by simpa using h)]; simp
  | k + 1, u, h => by
    by_cases h10 : u < 10
    · rw [Lib.decDigits, dif_pos h10]; simp
    · rw [Lib.decDigits, dif_neg h10]
      have := decDigits_len k (u / 10) (by rw [Nat.pow_succ] at h; omega)
      simp; omega

theorem decRest_len {m : Nat} {s l : List UInt8} (h : decRest m s = l) : s.length ≤ l.length := by
  subst h; unfold decRest; split <;> simp

theorem decRest_end (s : List UInt8) (h : s ≠ []) : decRest 0 s = s := by simp [decRest, h]
theorem decRest_begin (m : Nat) : decRest m [] = Lib.decDigits m := by simp [decRest]

set_option maxHeartbeats 1000000 in
set_option maxRecDepth 100000 in
theorem decimal_any (n : Nat) (hn : (n : Int) ≤ 9223372036854775807) (w : World) :
    Calls Tryz.prog 64 #[.int .i64 n] w fun e w' => e = .returned (.string ⟨(Lib.decDigits n).toArray⟩) ∧ Below w.heap.size w w' := by
  go_enter Tryz.func64, Tryz.ntmps64
  go_wp2
  go_loopw [0, 3] (fun nv sv wr => ∃ (m : Nat) (s : List UInt8), nv = .int .i64 m ∧ sv = .string ⟨s.toArray⟩ ∧ m ≤ n ∧ decRest m s = Lib.decDigits n ∧ Below w.heap.size w wr) (fun nv sv _ => 2 * (intOf nv).toNat + (match sv with | .string b => if b.data.size = 0 then 1 else 0 | _ => 0))
  case atStart => exact ⟨n, [], rfl, rfl, Nat.le_refl _, decRest_begin n, Below.refl _ _⟩
  case round =>
    obtain ⟨m, s, rfl, rfl, hm, hr, hb⟩ := hrel
    have hl := decRest_len hr
    have hl2 : (Lib.decDigits n).length ≤ 19 := decDigits_len 18 n (by omega)
    have hl3 : s.length ≤ 19 := by omega
    have HR := Lib.hid hr
    clear hl hl2
    clear hr
    have hconv : ∀ (v : Int) (l : List UInt8), l = [UInt8.ofNat v.toNat] → (l[0]!.toNat : Int) = v → (convert 106 9 (.slice (some ⟨wr.heap.size, 0, none⟩) 1 1)).run Tryz.prog (wr.alloc (.cells #[.int .u8 v] 5)) = .ok (.string ⟨l.toArray⟩) (wr.alloc (.cells #[.int .u8 v] 5)) := by
      intro v l hl hv
      subst hl
      exact run_convert_bytes_back _ 106 9 5 ⟨wr.heap.size, 0, none⟩ 1 [UInt8.ofNat v.toNat] Tryz.underlying106 Tryz.underlying5 Tryz.underlying9 (fun j hj => by
        have : j = 0 := by simpa using hj
        subst this
        rw [show (⟨wr.heap.size, 0, none⟩ : Addr).add 0 = ⟨wr.heap.size, 0, none⟩ from rfl]
        rw [World.cell?_alloc_mark]
        simp at hv ⊢; exact hv.symm)
    by_cases h0 : m = 0
    · by_cases hs : s = []
      · subst h0 hs
        have HC := hconv 48 [48] (by decide) (by decide)
        clear hconv
        go_wp2
        go_roundw
        case rel => exact ⟨0, [48], rfl, rfl, Nat.zero_le _, (decRest_step 0 [] (Or.inr rfl)).trans HR.out, hb.trans ((Below.refl _ _).alloc hb.size _)⟩
        case measure => simp [intOf]
      · subst h0
        have hse : s.isEmpty = false := by simp [hs]
        clear hconv
        go_wp2
        go_ret
        refine ⟨?_, hb⟩
        rw [← HR.out, decRest_end s hs]; rfl
    · have HC := hconv (48 + (m : Int) % 10) [UInt8.ofNat (48 + m % 10)] (by congr 1) (by
        have : m % 10 < 10 := Nat.mod_lt _ (by decide)
        simp [UInt8.toNat_ofNat']; omega)
      clear hconv
      have hpos : 0 < m := by omega
      go_wp2
      go_roundw
      case rel => exact ⟨m / 10, UInt8.ofNat (48 + m % 10) :: s, by go_num, by rw [UInt8.ofNat_add]; rfl, by omega, (decRest_step m s (Or.inl h0)).trans HR.out, hb.trans ((Below.refl _ _).alloc hb.size _)⟩
      case measure => simp [intOf]; omega
end Go.Proofs.YtpppfeldnbjdpaaGreatDoor
