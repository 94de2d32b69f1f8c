/- 16777217 as a binary32. -/
import Derived.Test.YtdfodfflkmcgpaaGreatDoorC3
namespace Go.Proofs.YtdfodfflkmcgpaaGreatDoor
open Go.RowKit Go.Sort
set_option linter.unusedVariables false
set_option maxRecDepth 100000
theorem exact_d (w : World) : Calls Tryz.prog 210 #[.int .u64 16777217, .int .i64 0, .bool false] w fun e w' => e = .returned (.tuple #[.float .f32 0, .bool false]) ∧ w' = w := by
  go_enter Tryz.func210, Tryz.ntmps210
  go_wp2_with fail
  go_ret2
  exact ⟨rfl, rfl⟩
theorem run_209 (b : Nat) (w : World) : (callFunc 209 #[.int .u32 b]).run Tryz.prog w = .ok (.value (.float .f32 b)) w := by kernel_rfl
theorem pack_d (w : World) : Calls Tryz.prog 223 #[.int .u32 8388608, .int .i64 1] w fun e w' => e = .returned (.tuple #[.float .f32 1266679808, .nilIface]) ∧ w' = w := by
  have h209 : ∀ w, (callFunc 209 #[.int .u32 1266679808]).run Tryz.prog w = .ok (.value (.float .f32 1266679808)) w := run_209 1266679808
  have e1 : bits .and .u32 8388608 8388608 = 8388608 := by decide +kernel
  have e2 : bits .andNot .u32 8388608 8388608 = 0 := by decide +kernel
  have e3 : bits .or .u32 0 1266679808 = 1266679808 := by decide +kernel
  go_enter Tryz.func223, Tryz.ntmps223
  go_wp2_with fail
  go_ret2
  exact ⟨rfl, rfl⟩
theorem unmin_d (w : World) : Calls Tryz.prog 197 #[.int .u64 16777216] w fun e w' => e = .returned (.int .u64 67108862) ∧ w' = w := by
  go_enter Tryz.func197, Tryz.ntmps197
  go_wp2_with fail
  go_ret
  exact ⟨congrArg (fun n => Ending.returned (.int .u64 n)) (by decide +kernel), rfl⟩
theorem usc_d : (usc 9223372586610589696 0 37 : Int) = 33554434 := by decide +kernel
theorem round_d (w : World) : Calls Tryz.prog 196 #[.int .u64 33554434] w fun e w' => e = .returned (.int .u64 8388608) ∧ w' = w := round_any 33554434 w (by decide) (by decide)
theorem len64_d (w : World) : Calls Tryz.prog 140 #[.int .u64 16777217] w fun e w' => e = .returned (.int .i64 25) ∧ w' = w := Tryz.bits_Len64 16777217 w (by decide) (by decide)
theorem parse_d {B : Nat} (w : World) (hG : Good B w) (hB : B ≤ w.heap.size) : Calls Tryz.prog 211 #[.int .u64 16777217, .int .i64 0, .int .u32 0] w fun e w' => e = .returned (.tuple #[.float .f32 1266679808, .nilIface]) ∧ Below B w w' := by
  go_enter Tryz.func211, Tryz.ntmps211
  go_wp2_with fail
  refine (len64_d _).mono ?_
  rintro e w2 ⟨rfl, hw⟩
  subst hw
  go_wp2_with fail
  refine (log2Pow10_to 0 0 _ (by decide) (by decide) (by decide)).mono ?_
  rintro e w2 ⟨rfl, hw⟩
  subst hw
  have hmin : min (149 : Int) (-1) = -1 := by decide
  go_wp2_with fail
  refine (prescale_fresh (-40) 0 0 37 _ _ _ _ hG hB (by decide) (by decide) (by decide) (by decide) (by decide) (by decide) (by decide)).mono ?_
  rintro e w2 ⟨rfl, hw⟩
  rw [hw]
  go_wp2_with fail
  refine (usc_calls 9223372586610589696 0 37 33554434 _ _ (by decide) (by decide) (by decide) (by decide) (by decide) (by decide) usc_d (by simp) (by simp) (by simp)).mono ?_
  rintro e w3 ⟨rfl, n, hw⟩
  rw [hw]
  go_wp2_with fail
  refine (unmin_d _).mono ?_
  rintro e w4 ⟨rfl, hw⟩
  rw [hw]
  go_wp2_with fail
  refine (bool2_i false _).mono ?_
  rintro e w4 ⟨rfl, hw⟩
  rw [hw]
  have e1 : bits .and .u64 33554434 1 = 0 := by decide +kernel
  have e2 : bits .or .u64 33554434 0 = 33554434 := by decide +kernel
  have e3 : bits .or .u32 0 8388608 = 8388608 := by decide +kernel
  go_wp2_with fail
  refine (round_d _).mono ?_
  rintro e w4 ⟨rfl, hw⟩
  rw [hw]
  go_wp2_with fail
  refine (pack_d _).mono ?_
  rintro e w4 ⟨rfl, hw⟩
  rw [hw]
  go_wp2_with fail
  go_ret2
  exact ⟨rfl, below_drewN ((Below.refl _ _).alloc hB _) _⟩
end Go.Proofs.YtdfodfflkmcgpaaGreatDoor
