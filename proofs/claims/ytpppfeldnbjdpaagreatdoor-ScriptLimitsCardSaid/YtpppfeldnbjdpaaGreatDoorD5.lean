/- The closure for the word tick: the act of a number. -/
import Derived.Test.YtpppfeldnbjdpaaGreatDoorD4
import Derived.Laws.CopyOwn
set_option linter.unusedVariables false
namespace Go.Proofs.YtpppfeldnbjdpaaGreatDoor
open Go Go.RowKit

/-- The zero act's cells. -/
def zeroC : Array Value := #[.int .i64 0, .int .i64 0, .int .i64 0, .slice none 0 0, .bool false, .int .i64 0, .int .i64 0, .int .i64 0, .int .i64 0, .int .i64 0, .int .i64 0, .int .i64 0, .int .i64 0, .int .i64 0, .int .i64 0, .int .i64 0, .int .i64 0, .int .i64 0, .int .i64 0, .int .i64 0, .string ⟨#[]⟩]
theorem zeroC_one : zeroC.all (·.oneCell') = true := by kernel_rfl

theorem results_cell_tmp {P : Program} {fn : Func} {p q : Tmp} {ty : TypeId} (h : fn.results = #[.cell p ty, .tmp q]) (tmps : Array Value) (w : World) (g : Nat) (t : TypeId) (cs : Array Value) (fr : Nat × Nat) (d : TypeDesc)
    (hp : tmps.getD p undef = .pointer (some ⟨g, 0, none⟩)) (hg : w.heap[g]? = some (.cells cs t fr))
    (hu : P.underlying ty = some d) (hd : (match d with | .struct _ | .array _ _ => true | _ => false) = true) (hi : (P.info? ty).map (·.size) = some cs.size) :
    (results fn tmps).run P w = .ok (.tuple #[.agg cs, tmps.getD q undef]) w := by
  have hp' : tmps[p]?.getD undef = .pointer (some ⟨g, 0, none⟩) := by simpa using hp
  simp [results, h, hp', asAddr, run_loadVar_row w g t ty cs fr d hg hu hd hi]

set_option maxHeartbeats 1000000 in
set_option maxRecDepth 100000 in
theorem tickOf_any (b c : Nat) (v : Int) (w : World) (hc : w.cell? ⟨b, 0, none⟩ = some (.int .i64 v)) :
    Calls Tryz.prog 112 #[.slice (some ⟨b, 0, none⟩) 1 c] w fun e w' => e = .returned (.agg (tickC v)) ∧ Below w.heap.size w w' := by
  have hb : b < w.heap.size := World.block_lt_of_cell? w ⟨b, 0, none⟩ hc
  go_enter Tryz.func112, Tryz.ntmps112
  go_wp2_with (first
    | (refine build_as rfl 31 _ rfl (tickC v) (by kernel_rfl) ?_)
    | (refine store_new w rfl 31 (.tmp 2) _ rfl w.heap.size (tickC v) _ rfl rfl 31 rfl (by kernel_rfl) rfl (tickC_one v) ?_))
  refine bodyPost_ret (v := .agg (tickC v)) (results_cell_row (p := 2) (ty := 31) Tryz.results112 _ _ w.heap.size 31 (tickC v) (0, 0) _ rfl (new_at _ _ _ rfl) Tryz.underlying31 rfl (by kernel_rfl)) rfl ⟨rfl, ?_⟩
  exact (Below.refl _ _).alloc (Nat.le_refl _) _

set_option maxHeartbeats 1000000 in
set_option maxRecDepth 100000 in
theorem tickClo_yes (L : List UInt8) (v : Int) (c1 c2 : Nat) (hL : (32 : UInt8) ∉ L) (h : Lib.atoiAll L = .ok v) (hi : Lib.itoa v = L) (h0 : 0 ≤ v) (h1 : v ≤ 9999999999) (hlen : L.length ≤ 100) (w : World) (hlaid : Laid w)
    (hc1 : w.heap[c1]? = some (.cells #[.int .i64 1] 3 (0, 0))) (hc2 : w.heap[c2]? = some (.cells #[.func (.func 112) #[] #[]] 236 (0, 0))) :
    Calls Tryz.prog 108 #[.string ⟨L.toArray⟩, .pointer (some ⟨c1, 0, none⟩), .pointer (some ⟨c2, 0, none⟩)] w fun e w' => e = .returned (.tuple #[.agg (tickC v), .bool true]) ∧ Below w.heap.size w w' := by
  have HV := Lib.hid (fun w' hl => values_yes L v hL h hi h0 h1 hlen w' hl)
  have HL := Lib.hid hlaid
  have HC1 := Lib.hid hc1
  have HC2 := Lib.hid hc2
  clear hlaid h hi hL hc1 hc2
  have d1 : ∀ Z, (w.alloc (.cells Z 31)).cell? ⟨c1, 0, none⟩ = some (.int .i64 1) := fun Z => cells_at (old_at HC1.out) 0
  have hlw : ∀ Z, Laid (w.alloc (.cells Z 31)) := fun Z => HL.out.below ((Below.refl _ _).alloc (Nat.le_refl _) _) HL.out.size
  have HLW := Lib.hid hlw
  clear hlw
  go_enter Tryz.func108, Tryz.ntmps108
  go_wp2_with fail
  refine (HV.out _ (HLW.out _)).mono ?_
  rintro e w2 ⟨⟨b, c, rfl, hcell⟩, hb2⟩
  have HZ2 := Lib.hid (Kept.at hb2 (new_at w _ w.heap.size rfl))
  have HB2 := Lib.hid hb2
  have d2 : w2.cell? ⟨c2, 0, none⟩ = some (.func (.func 112) #[] #[]) := cells_at (Kept.at hb2 (old_at HC2.out)) 0
  have HCell := Lib.hid hcell
  clear hb2 hcell d1
  go_wp2_with fail
  refine (tickOf_any b c v w2 HCell.out).mono ?_
  rintro e w3 ⟨rfl, hb3⟩
  have HZ3 := Lib.hid (Kept.at hb3 HZ2.out)
  have HB3 := Lib.hid ((((Below.refl _ _).alloc (Nat.le_refl w.heap.size) _).trans (HB2.out.mono (by simp))).trans (hb3.mono (by have := HB2.out.size; simp at this; omega)))
  clear hb3 d2 HB2 HZ2
  go_wp2_with (refine wpList_store_row rfl 31 (.tmp 4) _ rfl w.heap.size (tickC v) rfl rfl 31 _ HZ3.out (by kernel_rfl) rfl (tickC_one v) ?_)
  refine bodyPost_ret (v := .tuple #[.agg (tickC v), .bool true]) (results_cell_tmp (p := 4) (q := 5) (ty := 31) Tryz.results108 _ _ w.heap.size 31 (tickC v) (0, 0) _ rfl (setRow_heap _ _ _ _ _ _ HZ3.out) Tryz.underlying31 rfl (by kernel_rfl)) rfl ⟨rfl, ?_⟩
  exact below_setRow HB3.out (Nat.le_refl _) _

set_option maxHeartbeats 1000000 in
set_option maxRecDepth 100000 in
/-- Where the words are not read, the zero act and false. -/
theorem tickClo_no (L : List UInt8) (v : Int) (c1 c2 : Nat) (hL : (32 : UInt8) ∉ L) (h : Lib.atoiAll L = .ok v) (hi : Lib.itoa v ≠ L) (h0 : 0 ≤ v) (h1 : v ≤ 9999999999) (hlen : L.length ≤ 100) (w : World) (hlaid : Laid w)
    (hc1 : w.heap[c1]? = some (.cells #[.int .i64 1] 3 (0, 0))) :
    Calls Tryz.prog 108 #[.string ⟨L.toArray⟩, .pointer (some ⟨c1, 0, none⟩), .pointer (some ⟨c2, 0, none⟩)] w fun e w' => (∃ cs, e = .returned (.tuple #[.agg cs, .bool false]) ∧ cs.size = 21 ∧ cs.all (·.oneCell') = true) ∧ Below w.heap.size w w' := by
  have HV := Lib.hid (fun w' hl => values_no L v hL h hi h0 h1 hlen w' hl)
  have HL := Lib.hid hlaid
  have HC1 := Lib.hid hc1
  clear hlaid h hi hL hc1
  have d1 : ∀ Z, (w.alloc (.cells Z 31)).cell? ⟨c1, 0, none⟩ = some (.int .i64 1) := fun Z => cells_at (old_at HC1.out) 0
  have hlw : ∀ Z, Laid (w.alloc (.cells Z 31)) := fun Z => HL.out.below ((Below.refl _ _).alloc (Nat.le_refl _) _) HL.out.size
  have HLW := Lib.hid hlw
  clear hlw
  go_enter Tryz.func108, Tryz.ntmps108
  go_wp2_with fail
  refine (HV.out _ (HLW.out _)).mono ?_
  rintro e w2 ⟨rfl, hb2⟩
  have HZ2 := Lib.hid (Kept.at hb2 (new_at w _ w.heap.size rfl))
  have HB2 := Lib.hid (((Below.refl _ _).alloc (Nat.le_refl w.heap.size) _).trans (hb2.mono (by simp)))
  clear hb2 d1
  go_wp2_with (first
    | (refine build_as rfl 31 _ rfl zeroC (by kernel_rfl) ?_)
    | (refine wpList_store_row rfl 31 (.tmp 4) _ rfl w.heap.size zeroC rfl rfl 31 _ HZ2.out (by kernel_rfl) rfl zeroC_one ?_))
  refine bodyPost_ret (v := .tuple #[.agg zeroC, .bool false]) (results_cell_tmp (p := 4) (q := 5) (ty := 31) Tryz.results108 _ _ w.heap.size 31 zeroC (0, 0) _ rfl (setRow_heap _ _ _ _ _ _ HZ2.out) Tryz.underlying31 rfl (by kernel_rfl)) rfl ⟨⟨zeroC, rfl, rfl, zeroC_one⟩, ?_⟩
  exact below_setRow HB2.out (Nat.le_refl _) _
end Go.Proofs.YtpppfeldnbjdpaaGreatDoor
