/- ScriptLimits: as many acts as MaxActs can be written and read, and one more cannot: the row of the law, for every input; the listed variables are as the program's text lays them. -/
import Derived.Test.YtpppfeldnbjdpaaGreatDoorRows
import Derived.Test.YtpppfeldnbjdpaaGreatDoorG6
import Derived.Test.YtpppfeldnbjdpaaGreatDoorH0
import Derived.ProofKit
import Derived.OpenShut
import Derived.LaidMore
import Derived.LaidSub
import Derived.Lay
import Derived.Lib.LaidTab
import Derived.HandedShaped
import Derived.Stop.Joined
import Derived.ChangeSame
set_option linter.unusedVariables false
namespace Go.Proofs.YtpppfeldnbjdpaaGreatDoor
open Go Go.ChangeShapes Go.WideShapes Go.ChangeAt Go.RowKit

theorem own : ownKnob Tryz.prog.godebug = none := by kernel_rfl
theorem laid_plain : (Rows.scriptLimitsRow.laid.all fun x => x.2.handleName?.isNone) = true := by kernel_rfl

/-- What the condition gives the walk. -/
theorem laid_of {W : World} (hL : laidMetH Tryz.prog Rows.scriptLimitsRow.laid W) (hsh : W.ShapedOpen Tryz.prog) : Laid W := by
  rw [MakeChecks.laidMetH_plain _ _ _ laid_plain] at hL
  have h1 := hL.filter (fun x => x.1 == "internal/strconv.uint64pow10")
  have e : (Rows.scriptLimitsRow.laid.filter fun x => x.1 == "internal/strconv.uint64pow10") = [("internal/strconv.uint64pow10", Lib.tabData .u64 Lib.pow10Tab)] := by kernel_rfl
  rw [e] at h1
  have ht : Lib.TabIs Tryz.prog W "internal/strconv.uint64pow10" .u64 Lib.pow10Tab :=
    Lib.tabIs_of_head (g := 1) (t := 381) (e := 340) (n := 20) (by kernel_rfl) (by kernel_rfl) Tryz.underlying381 Tryz.underlying340 (by kernel_rfl) (by kernel_rfl) h1
  refine ⟨ht, Go.Proofs.cell_of_shapedOpen_int (zero := #[.int .i64 0]) (t := 3) hsh (of_decide_eq_true (by kernel_rfl)) (by kernel_rfl) rfl (by kernel_rfl) (by kernel_rfl) Tryz.underlying3, ?_⟩
  have h2 := hL.filter (fun x => x.1 == "unicode/utf8.acceptRanges")
  have e2 : (Rows.scriptLimitsRow.laid.filter fun x => x.1 == "unicode/utf8.acceptRanges") = [("unicode/utf8.acceptRanges", Rows.laid_unicode_utf8_acceptRanges)] := by kernel_rfl
  rw [e2] at h2
  obtain ⟨ps, ⟨g, t, cs, fuel, p, q, hg, hty, hv, hd, _, _⟩, _⟩ := h2
  obtain rfl := Option.some.inj ((show Tryz.prog.globalNamed "unicode/utf8.acceptRanges" = some 7 by kernel_rfl).symm.trans hg)
  rcases Nat.lt_or_ge 7 W.heap.size with h | h
  · exact h
  · unfold World.var? at hv
    rw [hg, Option.bind_some, Array.getElem?_eq_none h] at hv
    cases hv

set_option maxRecDepth 100000 in
theorem limits_lifted (os : Os) (started : os.Started) (H : Type) (enc : TypeId × Value → H) :
    ReturnsInHanded {} Tryz.checked os 4 .any (fun w args => (Rows.scriptLimitsSpec.pre enc Tryz.prog Tryz.f4 Rows.scriptLimitsRow.domain false w args ∧ laidMetH Tryz.prog Rows.scriptLimitsRow.laid w) ∧ sizedMet enc Tryz.prog Tryz.f4 (OpenSpec.ofChange Rows.scriptLimitsSpec) false w args)
      (Rows.scriptLimitsSpec.post enc Tryz.prog Tryz.f4 false true false false) := by
  refine returnsInHanded_of_calls own started (by kernel_rfl)
    (ChangeSpec.witness_shaped (enc := enc) (C := Tryz.checked) (os := os) (X := fun w _ => laidMetH Tryz.prog Rows.scriptLimitsRow.laid w) false (World.laidAll Tryz.prog os Rows.scriptLimitsRow.laid) #[.int .u8 0, .int .u16 0] 8 (World.laidAll_os _ _ _)
      (World.shaped_of_ZipB (by kernel_rfl) (by kernel_rfl)) (by kernel_rfl) (by kernel_rfl) (by kernel_rfl)
      (by rw [MakeChecks.laidMetH_plain _ _ _ laid_plain]; exact laidMet_laidAll _ (by kernel_rfl) (by kernel_rfl))) ?_
  intro w0 tape inp _ hsh _ hok hpre _
  obtain ⟨_, _, _, fn, hfn, _, _, _, _, hval0⟩ := hok
  obtain rfl : fn = Tryz.f4 := Option.some.inj (hfn.symm.trans Tryz.func4)
  obtain ⟨⟨⟨ds, gs, before, hw, _⟩, hlw⟩, _⟩ := hpre
  have hL : laidMetH Tryz.prog Rows.scriptLimitsRow.laid (w0.forCall tape inp) := laidMetH.of_heap (w := (w0.forCall tape inp).memory) (w' := w0.forCall tape inp) (by rfl) hlw
  have hW := DataW.Whole.of_heap (w' := w0.forCall tape inp) (by rfl) hw
  generalize w0.forCall tape inp = W at hW hL hsh hval0 ⊢
  generalize inp.args = args at hW hval0 ⊢
  have hval : ∀ (j : Nat) t v, Tryz.f4.params[j]? = some t → args[j]? = some v → Value.okWide Tryz.prog W .any w0.heap.size t v := hval0
  have hW' := hW
  obtain ⟨p, q, hA0, hV, rfl, hfz, hnd⟩ := hW
  have hA : DataW.TrodAll enc Tryz.prog W 0 (fun _ => true) true Tryz.f4.params.toList args.toList ds p := hA0
  rw [Tryz.params4] at hA hval
  obtain ⟨v0, vs0, d0, ds0, p0, q0, hargs, rfl, rfl, h0, r0⟩ := trodAll_cons hA
  obtain ⟨v1, vs1, d1, ds1, p1, q1, rfl, rfl, rfl, h1, r1⟩ := trodAll_cons r0
  obtain ⟨rfl, rfl, rfl⟩ := trodAll_nil r1
  obtain rfl : args = #[v0, v1] := by cases args; simp_all
  obtain ⟨rfl, rfl⟩ := trodVars_none hV
  obtain ⟨a0, rfl, rfl, rfl, w0'⟩ := open_int Tryz.underlying5 (hval 0 5 v0 rfl rfl) h0
  obtain ⟨a1, rfl, rfl, rfl, w1⟩ := open_int Tryz.underlying48 (hval 1 48 v1 rfl rfl) h1
  clear hA0 hval0
  simp only [List.append_nil] at hW'
  have b0 : 0 ≤ a0 ∧ a0 ≤ 255 := by
    have h := w0'
    simp only [Lit.wf, Bool.and_eq_true, decide_eq_true_eq] at h
    exact h
  have b1 : 0 ≤ a1 ∧ a1 ≤ 65535 := by
    have h := w1
    simp only [Lit.wf, Bool.and_eq_true, decide_eq_true_eq] at h
    exact h
  obtain ⟨n, hn⟩ : ∃ n : Nat, a1 = (n : Int) := ⟨a1.toNat, by omega⟩
  subst hn
  refine (limits_walk a0 b0.1 b0.2 n (by omega) W (laid_of hL hsh)).mono fun e W' ⟨he, hg⟩ => ?_
  subst he
  exact ChangeSpec.post_blind ⟨_, _, _, [], [], [], hW', trodAll_cons_mk (shut_bool Tryz.underlying4 _) trodAll_mk0, trodAll_cons_mk (shut_int Tryz.underlying5 w0') (trodAll_cons_mk (shut_int Tryz.underlying48 w1) trodAll_mk0), rfl, hg.frame _, fun h => by cases h⟩

theorem limits_holds : Rows.ScriptLimitsSaid :=
  OpenClaim.holds_of_wide 4 Tryz.f4 rfl rfl rfl rfl rfl rfl rfl ⟨rfl, rfl, rfl, rfl, rfl⟩ rfl rfl rfl rfl rfl limits_named Tryz.func4 limits_closed limits_inst limits_wrap
    (fun os started H enc _ => limits_lifted os started H enc)
end Go.Proofs.YtpppfeldnbjdpaaGreatDoor
