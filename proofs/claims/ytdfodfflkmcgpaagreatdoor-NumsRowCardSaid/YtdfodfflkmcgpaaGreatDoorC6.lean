/- "16777217" with one digit ahead of the point. -/
import Derived.Test.YtdfodfflkmcgpaaGreatDoorC3
namespace Go.Proofs.YtdfodfflkmcgpaaGreatDoor
open Go.RowKit Go.Sort
set_option linter.unusedVariables false
set_option maxRecDepth 100000
theorem itoa_7 {B : Nat} (w : World) (hG : Good B w) (hB : B ≤ w.heap.size) :
    Calls Tryz.prog 115 #[.int .i64 7] w fun e w' => e = .returned (.string ⟨#[55]⟩) ∧ Below B w w' := by
  refine (itoa_to 7 w hG hB (by decide) (by decide)).mono ?_
  rintro e w' ⟨r, rfl, hr, -, hb⟩
  have : r = ⟨#[55]⟩ := ByteArray.ext (Array.ext' (hr.out.trans (by decide +kernel)))
  exact ⟨by rw [this], hb⟩
set_option maxHeartbeats 4000000 in
theorem leading_d {B : Nat} (w : World) (hG : Good B w) (hB : B ≤ w.heap.size) :
    Calls Tryz.prog 87 #[.string ⟨#[49, 54, 55, 55, 55, 50, 49, 55]⟩] w fun e w' => e = .returned (.string ⟨#[49, 46, 54, 55, 55, 55, 50, 49, 55, 101, 55]⟩) ∧ Below B w w' := by
  go_enter Tryz.func87, Tryz.ntmps87
  go_wp2_with fail
  refine (cutPrefix_lit _ _ ⟨#[49, 54, 55, 55, 55, 50, 49, 55]⟩ false _ (by decide +kernel) (by decide +kernel)).mono ?_
  rintro e w2 ⟨rfl, hw⟩
  subst hw
  go_wp2_with fail
  refine (indexAny_lit _ (-1) _ hB (by decide) (by decide +kernel) (by decide +kernel)).mono ?_
  rintro e w1 ⟨rfl, hb1⟩
  have hG1 := hG.below hb1
  have hB1 := Nat.le_trans hB hb1.size
  go_wp2_with fail
  refine (cut_lit _ ⟨#[49, 54, 55, 55, 55, 50, 49, 55]⟩ ⟨#[]⟩ false _ hG1 (by decide) (by decide +kernel)).mono ?_
  rintro e w3 ⟨rfl, hb3⟩
  have hG3 := hG1.below hb3
  have hB3 := Nat.le_trans hB1 hb3.size
  have hb := hb1.trans hb3
  clear hb1 hb3 hG1 hB1
  go_wp2_with fail
  refine (trimLeft_lit _ ⟨#[49, 54, 55, 55, 55, 50, 49, 55]⟩ _ (by decide +kernel)).mono ?_
  rintro e w4 ⟨rfl, hw⟩
  rw [hw]
  clear hw w4
  go_wp2_with fail
  go_region_with (first | (go_at_call 115; refine (itoa_7 _ (by first | exact hG3 | exact hG3.drewN _) (by first | exact hB3 | (simp; exact hB3))).mono ?_; rintro e' w' ⟨rfl, hb4⟩))
  go_wp2_with fail
  go_ret
  exact ⟨by kernel_rfl, hb.trans ((below_drewN (Below.refl _ _) 1).trans hb4)⟩
end Go.Proofs.YtdfodfflkmcgpaaGreatDoor
