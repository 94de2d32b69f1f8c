/- NumsNumbers, walked. -/
import Derived.Test.YtdfodfflkmcgpaaGreatDoorC7
namespace Go.Proofs.YtdfodfflkmcgpaaGreatDoor
open Go.RowKit Go.Sort
set_option linter.unusedVariables false
set_option maxRecDepth 100000
set_option maxHeartbeats 8000000 in
theorem numbers_any {B : Nat} (w : World) (hG : Good B w) (hB : B ≤ w.heap.size) :
    Calls Tryz.prog 3 #[] w fun e w' => e = .returned (.bool true) ∧ Below B w w' := by
  go_enter Tryz.func3, Tryz.ntmps3
  go_wp2_with fail
  refine (works_any _ hG hB).mono ?_
  rintro e w1 ⟨rfl, hb1⟩
  have hB1 := Nat.le_trans hB hb1.size
  go_wp2_with fail
  go_loop [3] (fun s3 => ∃ k : Nat, k ≤ 9 ∧ s3 = .int .i64 k) (fun s3 => 9 - (intOf s3).toNat)
  case atStart => exact ⟨0, Nat.zero_le _, rfl⟩
  case round =>
    obtain ⟨k, hk, rfl⟩ := hrel
    have hc : k = 0 ∨ k = 1 ∨ k = 2 ∨ k = 3 ∨ k = 4 ∨ k = 5 ∨ k = 6 ∨ k = 7 ∨ k = 8 ∨ k = 9 := by omega
    rcases hc with rfl | rfl | rfl | rfl | rfl | rfl | rfl | rfl | rfl | rfl
    · go_wp2_with fail
      go_round
      case rel => exact ⟨1, by omega, rfl⟩
      case measure => decide
    · go_wp2_with fail
      go_round
      case rel => exact ⟨2, by omega, rfl⟩
      case measure => decide
    · go_wp2_with fail
      go_round
      case rel => exact ⟨3, by omega, rfl⟩
      case measure => decide
    · go_wp2_with fail
      go_round
      case rel => exact ⟨4, by omega, rfl⟩
      case measure => decide
    · go_wp2_with fail
      go_round
      case rel => exact ⟨5, by omega, rfl⟩
      case measure => decide
    · go_wp2_with fail
      go_round
      case rel => exact ⟨6, by omega, rfl⟩
      case measure => decide
    · go_wp2_with fail
      go_round
      case rel => exact ⟨7, by omega, rfl⟩
      case measure => decide
    · go_wp2_with fail
      go_round
      case rel => exact ⟨8, by omega, rfl⟩
      case measure => decide
    · go_wp2_with fail
      go_round
      case rel => exact ⟨9, by omega, rfl⟩
      case measure => decide
    · go_wp2_with fail
      go_loop [5] (fun s3 => ∃ k : Nat, k ≤ 8 ∧ s3 = .int .i64 k) (fun s3 => 8 - (intOf s3).toNat)
      case atStart => exact ⟨0, Nat.zero_le _, rfl⟩
      case round =>
        obtain ⟨k, hk, rfl⟩ := hrel
        have hc : k = 0 ∨ k = 1 ∨ k = 2 ∨ k = 3 ∨ k = 4 ∨ k = 5 ∨ k = 6 ∨ k = 7 ∨ k = 8 := by omega
        rcases hc with rfl | rfl | rfl | rfl | rfl | rfl | rfl | rfl | rfl
        · go_wp2_with fail
          go_round
          case rel => exact ⟨1, by omega, rfl⟩
          case measure => decide
        · go_wp2_with fail
          go_round
          case rel => exact ⟨2, by omega, rfl⟩
          case measure => decide
        · go_wp2_with fail
          go_round
          case rel => exact ⟨3, by omega, rfl⟩
          case measure => decide
        · go_wp2_with fail
          go_round
          case rel => exact ⟨4, by omega, rfl⟩
          case measure => decide
        · go_wp2_with fail
          go_round
          case rel => exact ⟨5, by omega, rfl⟩
          case measure => decide
        · go_wp2_with fail
          go_round
          case rel => exact ⟨6, by omega, rfl⟩
          case measure => decide
        · go_wp2_with fail
          go_round
          case rel => exact ⟨7, by omega, rfl⟩
          case measure => decide
        · go_wp2_with fail
          go_round
          case rel => exact ⟨8, by omega, rfl⟩
          case measure => decide
        · go_wp2_with fail
          go_ret
          exact ⟨rfl, ((hb1.alloc hB1 _).alloc (by simp; omega) _)⟩
end Go.Proofs.YtdfodfflkmcgpaaGreatDoor
