/- The three numbers that works() shows. -/
import Derived.Test.YtdfodfflkmcgpaaGreatDoorB5
namespace Go.Proofs.YtdfodfflkmcgpaaGreatDoor
open Go.RowKit Go.Sort
set_option linter.unusedVariables false
set_option maxRecDepth 100000

theorem floating_a {B : Nat} (w : World) (hG : Good B w) (hB : B ≤ w.heap.size) :
    Calls Tryz.prog 40 #[.float .f64 4591870180066957722, .int .i64 64] w fun e w' => e = .returned (.string ⟨#[48, 46, 49]⟩) ∧ Below B w w' := by
  refine floating_fin 4591870180066957722 64 w hG hB (strOfNums [49, 101, 45, 48, 49]) (strOfNums [49, 101, 45, 48, 49]) (by decide +kernel) (by decide +kernel) false (by decide +kernel) (by decide +kernel) (by decide +kernel) (by decide +kernel)
    (Lib.hid fun W hGW hBW => format_public _ _ _ _ (format64_any _ W hGW hBW [49, 101, 45, 48, 49] (by decide) fun v W' hG' hO => ?_))
    (by decide +kernel) (Lib.hid rfl) [49] [45, 48, 49] (-1) (Lib.hid (by decide +kernel)) (Lib.hid (by decide +kernel)) (Lib.hid (by decide +kernel)) (Lib.hid (by decide +kernel)) (by decide) (by decide) [49] (Lib.hid (by decide +kernel)) (Lib.hid (by decide +kernel))
  rw [← (show signOf false ++ textE 1000000000000000 (-16) = [49, 101, 45, 48, 49] by decide +kernel)]
  exact ftoa64_nor 4591870180066957722 7205759403792794 false v 0 [] W' hG' hO (by decide) 1019 2702159776422298 (-56) (by decide) (by decide +kernel) (by decide +kernel) (by decide +kernel) (by decide +kernel) (by decide +kernel) (by decide) (by decide) (Lib.hid (by decide))
    (by decide) (by decide) false (Lib.hid (by decide)) (by decide) (by decide) (fun h => absurd h (by decide)) 1000000000000000 (-16) (Lib.hid (by decide +kernel)) (by decide) (by decide) (by decide) (by decide)

theorem floating_c {B : Nat} (w : World) (hG : Good B w) (hB : B ≤ w.heap.size) :
    Calls Tryz.prog 40 #[.float .f64 1, .int .i64 64] w fun e w' => e = .returned (.string ⟨#[53, 101, 45, 51, 50, 52]⟩) ∧ Below B w w' := by
  have hl : (if false = true then [45] else []) ++ laidL [53] (-324) = [53, 101, 45, 51, 50, 52] := by decide +kernel
  suffices h : Calls Tryz.prog 40 #[.float .f64 1, .int .i64 64] w fun e w' => e = .returned (.string ⟨((if false = true then [45] else []) ++ laidL [53] (-324)).toArray⟩) ∧ Below B w w' by
    rw [hl] at h; exact h
  refine floating_fin 1 64 w hG hB (strOfNums [53, 101, 45, 51, 50, 52]) (strOfNums [53, 101, 45, 51, 50, 52]) (by decide +kernel) (by decide +kernel) false (by decide +kernel) (by decide +kernel) (by decide +kernel) (by decide +kernel)
    (Lib.hid fun W hGW hBW => format_public _ _ _ _ (format64_any _ W hGW hBW [53, 101, 45, 51, 50, 52] (by decide) fun v W' hG' hO => ?_))
    (by decide +kernel) (Lib.hid rfl) [53] [45, 51, 50, 52] (-324) (Lib.hid (by decide +kernel)) (Lib.hid (by decide +kernel)) (Lib.hid (by decide +kernel)) (Lib.hid (by decide +kernel)) (by decide) (by decide) [53] (Lib.hid (by decide +kernel)) (Lib.hid (by decide +kernel))
  rw [← (show signOf false ++ textE 5 (-324) = [53, 101, 45, 51, 50, 52] by decide +kernel)]
  exact ftoa64_sub 1 1 false v 0 [] W' hG' hO (by decide) 1 (-1074) (by decide) (by decide +kernel) (by decide +kernel) (by decide +kernel) (by decide +kernel) trivial (Lib.hid rfl)
    (by decide) (by decide) false (Lib.hid (by decide)) (by decide) (by decide) (fun _ => rfl) 5 (-324) (Lib.hid (by decide +kernel)) (by decide) (by decide) (by decide) (by decide)

theorem conv_b (w : World) : (convert 60 59 (.float .f32 1036831949)).run Tryz.prog w = .ok (.float .f64 4591870180174331904) w := by kernel_rfl
theorem conv_b' (w : World) : (convert 59 60 (.float .f64 4591870180174331904)).run Tryz.prog w = .ok (.float .f32 1036831949) w := by kernel_rfl

theorem floating_b {B : Nat} (w : World) (hG : Good B w) (hB : B ≤ w.heap.size) :
    Calls Tryz.prog 40 #[.float .f64 4591870180174331904, .int .i64 32] w fun e w' => e = .returned (.string ⟨#[48, 46, 49]⟩) ∧ Below B w w' := by
  refine floating_fin 4591870180174331904 32 w hG hB (strOfNums [49, 101, 45, 48, 49]) (strOfNums [49, 101, 45, 48, 49]) (by decide +kernel) (by decide +kernel) false (by decide +kernel) (by decide +kernel) (by decide +kernel) (by decide +kernel)
    (Lib.hid fun W hGW hBW => format_public _ _ _ _ (format32_any 1036831949 _ W hGW hBW [49, 101, 45, 48, 49] (by decide) conv_b' fun v W' hG' hO => ?_))
    (by decide +kernel) (Lib.hid rfl) [49] [45, 48, 49] (-1) (Lib.hid (by decide +kernel)) (Lib.hid (by decide +kernel)) (Lib.hid (by decide +kernel)) (Lib.hid (by decide +kernel)) (by decide) (by decide) [49] (Lib.hid (by decide +kernel)) (Lib.hid (by decide +kernel))
  rw [← (show signOf false ++ textE 10000000 (-8) = [49, 101, 45, 48, 49] by decide +kernel)]
  exact ftoa32_nor 1036831949 13421773 false v 0 [] W' hG' hO (by decide) 123 5033165 (-27) (by decide) (by decide +kernel) (by decide +kernel) (by decide +kernel) (by decide +kernel) (by decide +kernel) (by decide) (by decide) (Lib.hid (by decide))
    (by decide) (by decide) false (Lib.hid (by decide)) (by decide) (by decide) (fun h => absurd h (by decide)) 10000000 (-8) (Lib.hid (by decide +kernel)) (by decide) (by decide) (by decide) (by decide)
end Go.Proofs.YtdfodfflkmcgpaaGreatDoor
