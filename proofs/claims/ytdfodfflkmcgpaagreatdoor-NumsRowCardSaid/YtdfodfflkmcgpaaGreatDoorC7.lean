/- works() : what the chapter's examples fix. -/
import Derived.Test.YtdfodfflkmcgpaaGreatDoorC4
import Derived.Test.YtdfodfflkmcgpaaGreatDoorC5
import Derived.Test.YtdfodfflkmcgpaaGreatDoorC6
namespace Go.Proofs.YtdfodfflkmcgpaaGreatDoor
open Go.RowKit Go.Sort
set_option linter.unusedVariables false
set_option maxRecDepth 100000
theorem atof32_d {B : Nat} (w : World) (hG : Good B w) (hB : B ≤ w.heap.size) :
    Calls Tryz.prog 183 #[.string ⟨#[49, 46, 54, 55, 55, 55, 50, 49, 55, 101, 55]⟩] w fun e w' => e = .returned (.tuple #[.float .f32 1266679808, .int .i64 11, .nilIface]) ∧ Below B w w' := by
  have hopt := hG.opt
  go_enter Tryz.func183, Tryz.ntmps183
  go_wp2_with fail
  refine (special_d _).mono ?_
  rintro e w2 ⟨rfl, hw⟩
  subst hw
  go_wp2_with fail
  refine (readFloat_d _).mono ?_
  rintro e w2 ⟨rfl, hw⟩
  subst hw
  go_wp2_with fail
  refine (bool2_u32 false _).mono ?_
  rintro e w2 ⟨rfl, hw⟩
  subst hw
  go_wp2_with fail
  refine (exact_d _).mono ?_
  rintro e w2 ⟨rfl, hw⟩
  subst hw
  go_wp2_with fail
  refine (parse_d _ hG hB).mono ?_
  rintro e w3 ⟨rfl, hb⟩
  go_wp2_with fail
  go_ret3
  exact ⟨rfl, hb⟩
theorem conv_d (w : World) : (convert 60 59 (.float .f32 1266679808)).run Tryz.prog w = .ok (.float .f64 4715268809856909312) w := by kernel_rfl
theorem conv_d' (w : World) : (convert 59 60 (.float .f64 4715268809856909312)).run Tryz.prog w = .ok (.float .f32 1266679808) w := by kernel_rfl
theorem prefix_d {B : Nat} (w : World) (hG : Good B w) (hB : B ≤ w.heap.size) :
    Calls Tryz.prog 158 #[.string ⟨#[49, 46, 54, 55, 55, 55, 50, 49, 55, 101, 55]⟩, .int .i64 32] w fun e w' => e = .returned (.tuple #[.float .f64 4715268809856909312, .int .i64 11, .nilIface]) ∧ Below B w w' := by
  have hcv := conv_d
  go_enter Tryz.func158, Tryz.ntmps158
  go_wp2_with fail
  refine (atof32_d _ hG hB).mono ?_
  rintro e w3 ⟨rfl, hb⟩
  go_wp2_with fail
  go_ret3
  exact ⟨rfl, hb⟩
theorem pf_d {B : Nat} (w : World) (hG : Good B w) (hB : B ≤ w.heap.size) :
    Calls Tryz.prog 126 #[.string ⟨#[49, 46, 54, 55, 55, 55, 50, 49, 55, 101, 55]⟩, .int .i64 32] w fun e w' => e = .returned (.tuple #[.float .f64 4715268809856909312, .nilIface]) ∧ Below B w w' := by
  go_enter Tryz.func126, Tryz.ntmps126
  go_wp2_with fail
  refine (prefix_d _ hG hB).mono ?_
  rintro e w3 ⟨rfl, hb⟩
  go_wp2_with fail
  go_ret2
  exact ⟨rfl, hb⟩
theorem pf2_d {B : Nat} (w : World) (hG : Good B w) (hB : B ≤ w.heap.size) :
    Calls Tryz.prog 86 #[.string ⟨#[49, 46, 54, 55, 55, 55, 50, 49, 55, 101, 55]⟩, .int .i64 32] w fun e w' => e = .returned (.tuple #[.float .f64 4715268809856909312, .nilIface]) ∧ Below B w w' := by
  go_enter Tryz.func86, Tryz.ntmps86
  go_wp2_with fail
  refine (pf_d _ hG hB).mono ?_
  rintro e w3 ⟨rfl, hb⟩
  go_wp2_with fail
  go_ret2
  exact ⟨rfl, hb⟩
theorem rf_d {B : Nat} (w : World) (hG : Good B w) (hB : B ≤ w.heap.size) :
    Calls Tryz.prog 59 #[.string ⟨#[49, 54, 55, 55, 55, 50, 49, 55]⟩, .int .i64 32] w fun e w' => e = .returned (.tuple #[.int .u64 1266679808, .int .i64 0]) ∧ Below B w w' := by
  have hcv := conv_d'
  have h56 : ∀ w, (callFunc 56 #[.float .f32 1266679808]).run Tryz.prog w = .ok (.value (.int .u32 1266679808)) w := fun w => by kernel_rfl
  go_enter Tryz.func59, Tryz.ntmps59
  go_wp2_with fail
  refine (num_d _).mono ?_
  rintro e w2 ⟨rfl, hw⟩
  subst hw
  go_wp2_with fail
  refine (leading_d _ hG hB).mono ?_
  rintro e w1 ⟨rfl, hb1⟩
  go_wp2_with fail
  refine (pf2_d _ (hG.below hb1) (Nat.le_trans hB hb1.size)).mono ?_
  rintro e w3 ⟨rfl, hb⟩
  go_wp2_with fail
  go_ret2
  exact ⟨rfl, hb1.trans hb⟩
theorem read_d {B : Nat} (w : World) (hG : Good B w) (hB : B ≤ w.heap.size) :
    Calls Tryz.prog 28 #[.int .u8 2, .string ⟨#[49, 54, 55, 55, 55, 50, 49, 55]⟩] w fun e w' => e = .returned (.tuple #[.int .u64 1266679808, .int .i64 0]) ∧ Below B w w' := by
  go_enter Tryz.func28, Tryz.ntmps28
  go_wp2_with fail
  refine (sort_2 _).mono ?_
  rintro e w2 ⟨rfl, hw⟩
  subst hw
  go_wp2_with fail
  refine (rf_d _ hG hB).mono ?_
  rintro e w3 ⟨rfl, hb⟩
  go_wp2_with fail
  go_ret2
  exact ⟨rfl, hb⟩
set_option maxHeartbeats 4000000 in
theorem works_any {B : Nat} (w : World) (hG : Good B w) (hB : B ≤ w.heap.size) :
    Calls Tryz.prog 15 #[] w fun e w' => e = .returned (.bool true) ∧ Below B w w' := by
  go_enter Tryz.func15, Tryz.ntmps15
  go_wp2_with fail
  refine (show_a _ hG hB).mono ?_
  rintro e w1 ⟨rfl, hb1⟩
  have hG1 := hG.below hb1
  have hB1 := Nat.le_trans hB hb1.size
  have hL1 := hb1
  go_wp2_with fail
  refine (show_b _ hG1 hB1).mono ?_
  rintro e w2 ⟨rfl, hb2⟩
  have hG2 := hG1.below hb2
  have hB2 := Nat.le_trans hB1 hb2.size
  have hL2 := hL1.trans hb2
  go_wp2_with fail
  refine (show_c _ hG2 hB2).mono ?_
  rintro e w3 ⟨rfl, hb3⟩
  have hG3 := hG2.below hb3
  have hB3 := Nat.le_trans hB2 hb3.size
  have hL3 := hL2.trans hb3
  go_wp2_with fail
  refine (read_d _ hG3 hB3).mono ?_
  rintro e w4 ⟨rfl, hb4⟩
  have hG4 := hG3.below hb4
  have hB4 := Nat.le_trans hB3 hb4.size
  have hL4 := hL3.trans hb4
  go_wp2_with fail
  refine (whole_f _ hG4 hB4).mono ?_
  rintro e w5 ⟨rfl, hb5⟩
  have hG5 := hG4.below hb5
  have hB5 := Nat.le_trans hB4 hb5.size
  have hL5 := hL4.trans hb5
  go_wp2_with fail
  refine (read_h _ hB5).mono ?_
  rintro e w6 ⟨rfl, hb6⟩
  have hG6 := hG5.below hb6
  have hB6 := Nat.le_trans hB5 hb6.size
  have hL6 := hL5.trans hb6
  go_wp2_with fail
  refine (read_i _).mono ?_
  rintro e wx ⟨rfl, hw⟩
  rw [hw]
  clear hw wx
  go_wp2_with fail
  refine (num_j _).mono ?_
  rintro e wx ⟨rfl, hw⟩
  rw [hw]
  clear hw wx
  go_wp2_with fail
  refine (narrow_k _).mono ?_
  rintro e wx ⟨rfl, hw⟩
  rw [hw]
  clear hw wx
  go_wp2_with fail
  refine (widen_l _).mono ?_
  rintro e wx ⟨rfl, hw⟩
  rw [hw]
  clear hw wx
  go_wp2_with fail
  refine (cut_m _).mono ?_
  rintro e wx ⟨rfl, hw⟩
  rw [hw]
  clear hw wx
  go_wp2_with fail
  refine (fits_8 _).mono ?_
  rintro e wx ⟨rfl, hw⟩
  rw [hw]
  clear hw wx
  go_wp2_with fail
  refine (compare_o _).mono ?_
  rintro e wx ⟨rfl, hw⟩
  rw [hw]
  clear hw wx
  go_wp2_with fail
  go_ret
  exact ⟨by first | rfl | kernel_rfl, hL6⟩
end Go.Proofs.YtdfodfflkmcgpaaGreatDoor
