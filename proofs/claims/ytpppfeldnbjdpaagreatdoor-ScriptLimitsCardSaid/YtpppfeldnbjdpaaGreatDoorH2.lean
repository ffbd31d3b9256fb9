/- ScriptLimits: whatever n and at, as many acts as MaxActs can be written and read, and one more cannot: the tied card; conditions: the listed package-level variables are as the program's text lays them, which the card ties. -/
import Derived.Test.YtpppfeldnbjdpaaGreatDoorH1
import Derived.Test.YtpppfeldnbjdpaaGreatDoorCards
import Derived.Test.YtpppfeldnbjdpaaGreatDoorTie
import Derived.SevenTiedAt
namespace Go.Proofs.YtpppfeldnbjdpaaGreatDoor
open Go

theorem limits_card : Rows.ScriptLimitsCardSaid :=
  Claim7.holds_tied_plain_at .later [] [.data, .data, .data, .data, .sentinel, .sentinel, .pinned] true (true, "1040cd8ac28ae239f7fa33e281e04e470fc1a39592a285d4ff4658cb477bf59f") true
    limits_holds (fun _ h => by cases h) (by kernel_rfl) (fun _ h => by cases h) scriptLimits_row_tie rfl ⟨rfl, rfl⟩ (by kernel_rfl) rfl
    (fun f fn hf hfn => by
      obtain rfl : f = 4 := Option.some.inj (limits_named.symm.trans hf) |>.symm
      obtain rfl : fn = Tryz.f4 := (Option.some.inj (Tryz.func4.symm.trans hfn)).symm
      exact ⟨by kernel_rfl, fun j t ht => by
        rw [Tryz.params4] at ht
        have hm : t ∈ [5, 48] := by simpa using Array.mem_of_getElem? ht
        have hall : ([5, 48].all fun u => !Tryz.prog.wantsStandIn u) = true := by kernel_rfl
        exact (show Tryz.prog.wantsStandIn t = false by simpa using List.all_eq_true.1 hall t hm)⟩)
    (by kernel_rfl)
#print axioms limits_card
end Go.Proofs.YtpppfeldnbjdpaaGreatDoor
