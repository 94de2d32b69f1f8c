/- NumsRow, walked: Compare orders all numbers of a kind in one row. -/
import Derived.Test.YtdfodfflkmcgpaaGreatDoorC7
import Derived.Test.YtdfodfflkmcgpaaGreatDoorN4
namespace Go.Proofs.YtdfodfflkmcgpaaGreatDoor
open Go.RowKit Go.Sort
set_option linter.unusedVariables false
set_option maxRecDepth 100000
theorem rank_inj (a b : Int) (ha0 : 0 ≤ a) (ha1 : a < 18446744073709551616) (hb0 : 0 ≤ b) (hb1 : b < 18446744073709551616) : rankN a = rankN b ↔ a = b := by
  unfold rankN
  split <;> split <;> omega
theorem sort_two (k : Int) : sortN k = 6 ↔ k = 2 := by
  constructor
  · intro h
    have hk : ∀ x : Int, k = x → sortN x = 6 := fun x hx => hx ▸ h
    by_cases h2 : k = 2
    · exact h2
    by_cases h1 : k = 1
    · exact absurd (hk 1 h1) (by decide)
    by_cases h3 : k = 3
    · exact absurd (hk 3 h3) (by decide)
    by_cases h4 : k = 4
    · exact absurd (hk 4 h4) (by decide)
    by_cases h5 : k = 5
    · exact absurd (hk 5 h5) (by decide)
    by_cases h6 : k = 6
    · exact absurd (hk 6 h6) (by decide)
    by_cases h7 : k = 7
    · exact absurd (hk 7 h7) (by decide)
    by_cases h8 : k = 8
    · exact absurd (hk 8 h8) (by decide)
    by_cases h13 : k = 13
    · exact absurd (hk 13 h13) (by decide)
    by_cases h14 : k = 14
    · exact absurd (hk 14 h14) (by decide)
    by_cases h15 : k = 15
    · exact absurd (hk 15 h15) (by decide)
    by_cases h16 : k = 16
    · exact absurd (hk 16 h16) (by decide)
    by_cases h17 : k = 17
    · exact absurd (hk 17 h17) (by decide)
    by_cases h18 : k = 18
    · exact absurd (hk 18 h18) (by decide)
    have hs : sortN k = 0 := by unfold sortN; simp only [if_neg h1, if_neg h2, if_neg h3, if_neg h4, if_neg h5, if_neg h6, if_neg h7, if_neg h8, if_neg h13, if_neg h14, if_neg h15, if_neg h16, if_neg h17, if_neg h18]
    rw [hs] at h
    exact absurd h (by decide)
  · rintro rfl
    decide
theorem key_inj (k a b : Int) (ha0 : 0 ≤ a) (ha1 : a < 18446744073709551616) (hb0 : 0 ≤ b) (hb1 : b < 18446744073709551616) (hk : k ≠ 2) : keyN k a = keyN k b ↔ a = b := by
  have h6 : sortN k ≠ 6 := fun h => hk ((sort_two k).1 h)
  unfold keyN
  simp only [if_neg h6]
  split
  · simp only [wrap64]; omega
  · split
    · exact rank_inj a b ha0 ha1 hb0 hb1
    · exact Iff.rfl
theorem key_inj2 (a b : Int) (ha0 : 0 ≤ a) (hb0 : 0 ≤ b) : keyN 2 a = keyN 2 b ↔ a % 4294967296 = b % 4294967296 := by
  have h6 : sortN 2 = 6 := by decide
  unfold keyN
  simp only [h6]
  simp only [show ¬ ((6 : Int) = 2 ∨ (6 : Int) = 3) by decide, if_false, if_true]
  rw [rank_inj _ _ (by omega) (by omega) (by omega) (by omega)]
  omega
set_option maxHeartbeats 4000000 in
theorem row_walk {B : Nat} (k a b c x y z : Int) (s : Bool) (w : World) (hG : Good B w) (hB : B ≤ w.heap.size)
    (H1 : Hid (∀ w, Calls Tryz.prog 22 #[.int .u8 k, .int .u64 a, .int .u64 b] w fun e w' => e = .returned (.int .i64 x) ∧ w' = w))
    (H2 : Hid (∀ w, Calls Tryz.prog 22 #[.int .u8 k, .int .u64 b, .int .u64 c] w fun e w' => e = .returned (.int .i64 y) ∧ w' = w))
    (H3 : Hid (∀ w, Calls Tryz.prog 22 #[.int .u8 k, .int .u64 a, .int .u64 c] w fun e w' => e = .returned (.int .i64 z) ∧ w' = w))
    (H4 : Hid (∀ w, Calls Tryz.prog 22 #[.int .u8 k, .int .u64 b, .int .u64 a] w fun e w' => e = .returned (.int .i64 (-x)) ∧ w' = w))
    (H5 : Hid (∀ w, Calls Tryz.prog 22 #[.int .u8 k, .int .u64 a, .int .u64 a] w fun e w' => e = .returned (.int .i64 0) ∧ w' = w))
    (hc : (x = 0 ∧ y = 0 ∧ z = 0 ∧ s = true) ∨ (x = 0 ∧ y = -1 ∧ z = -1 ∧ s = true) ∨ (x = 0 ∧ y = 1 ∧ z = 1 ∧ s = true) ∨ (x = -1 ∧ y = 0 ∧ z = -1 ∧ s = false) ∨ (x = -1 ∧ y = -1 ∧ z = -1 ∧ s = false) ∨ (x = -1 ∧ y = 1 ∧ s = false) ∨ (x = 1 ∧ s = false))
    (hs : (k = 2 ∧ (a.tmod 4294967296 == b.tmod 4294967296) = s) ∨ ((k == 2) = false ∧ (a == b) = s)) :
    Calls Tryz.prog 12 #[.int .u8 k, .int .u64 a, .int .u64 b, .int .u64 c] w fun e w' => e = .returned (.bool true) ∧ Below B w w' := by
  rcases hc with ⟨rfl, rfl, rfl, rfl⟩ | ⟨rfl, rfl, rfl, rfl⟩ | ⟨rfl, rfl, rfl, rfl⟩ | ⟨rfl, rfl, rfl, rfl⟩ | ⟨rfl, rfl, rfl, rfl⟩ | ⟨rfl, rfl, rfl⟩ | ⟨rfl, rfl⟩
  · rcases hs with ⟨rfl, hab⟩ | ⟨hk2, hab⟩
    · go_enter Tryz.func12, Tryz.ntmps12
      go_wp2_with fail
      refine (works_any _ hG hB).mono ?_
      rintro e w1 ⟨rfl, hb1⟩
      go_wp2_with fail
      refine (H1.out _).mono ?_
      rintro e w2 ⟨rfl, hw⟩
      rw [hw]
      clear hw w2
      go_wp2_with fail
      refine (H2.out _).mono ?_
      rintro e w2 ⟨rfl, hw⟩
      rw [hw]
      clear hw w2
      go_wp2_with fail
      refine (H3.out _).mono ?_
      rintro e w2 ⟨rfl, hw⟩
      rw [hw]
      clear hw w2
      go_wp2_with fail
      refine (H4.out _).mono ?_
      rintro e w2 ⟨rfl, hw⟩
      rw [hw]
      clear hw w2
      go_wp2_with fail
      refine (H5.out _).mono ?_
      rintro e w2 ⟨rfl, hw⟩
      rw [hw]
      clear hw w2
      go_wp2_with fail
      go_ret
      exact ⟨rfl, hb1⟩
    · go_enter Tryz.func12, Tryz.ntmps12
      go_wp2_with fail
      refine (works_any _ hG hB).mono ?_
      rintro e w1 ⟨rfl, hb1⟩
      go_wp2_with fail
      refine (H1.out _).mono ?_
      rintro e w2 ⟨rfl, hw⟩
      rw [hw]
      clear hw w2
      go_wp2_with fail
      refine (H2.out _).mono ?_
      rintro e w2 ⟨rfl, hw⟩
      rw [hw]
      clear hw w2
      go_wp2_with fail
      refine (H3.out _).mono ?_
      rintro e w2 ⟨rfl, hw⟩
      rw [hw]
      clear hw w2
      go_wp2_with fail
      refine (H4.out _).mono ?_
      rintro e w2 ⟨rfl, hw⟩
      rw [hw]
      clear hw w2
      go_wp2_with fail
      refine (H5.out _).mono ?_
      rintro e w2 ⟨rfl, hw⟩
      rw [hw]
      clear hw w2
      go_wp2_with fail
      go_ret
      exact ⟨rfl, hb1⟩
  · rcases hs with ⟨rfl, hab⟩ | ⟨hk2, hab⟩
    · go_enter Tryz.func12, Tryz.ntmps12
      go_wp2_with fail
      refine (works_any _ hG hB).mono ?_
      rintro e w1 ⟨rfl, hb1⟩
      go_wp2_with fail
      refine (H1.out _).mono ?_
      rintro e w2 ⟨rfl, hw⟩
      rw [hw]
      clear hw w2
      go_wp2_with fail
      refine (H2.out _).mono ?_
      rintro e w2 ⟨rfl, hw⟩
      rw [hw]
      clear hw w2
      go_wp2_with fail
      refine (H3.out _).mono ?_
      rintro e w2 ⟨rfl, hw⟩
      rw [hw]
      clear hw w2
      go_wp2_with fail
      refine (H4.out _).mono ?_
      rintro e w2 ⟨rfl, hw⟩
      rw [hw]
      clear hw w2
      go_wp2_with fail
      refine (H5.out _).mono ?_
      rintro e w2 ⟨rfl, hw⟩
      rw [hw]
      clear hw w2
      go_wp2_with fail
      go_ret
      exact ⟨rfl, hb1⟩
    · go_enter Tryz.func12, Tryz.ntmps12
      go_wp2_with fail
      refine (works_any _ hG hB).mono ?_
      rintro e w1 ⟨rfl, hb1⟩
      go_wp2_with fail
      refine (H1.out _).mono ?_
      rintro e w2 ⟨rfl, hw⟩
      rw [hw]
      clear hw w2
      go_wp2_with fail
      refine (H2.out _).mono ?_
      rintro e w2 ⟨rfl, hw⟩
      rw [hw]
      clear hw w2
      go_wp2_with fail
      refine (H3.out _).mono ?_
      rintro e w2 ⟨rfl, hw⟩
      rw [hw]
      clear hw w2
      go_wp2_with fail
      refine (H4.out _).mono ?_
      rintro e w2 ⟨rfl, hw⟩
      rw [hw]
      clear hw w2
      go_wp2_with fail
      refine (H5.out _).mono ?_
      rintro e w2 ⟨rfl, hw⟩
      rw [hw]
      clear hw w2
      go_wp2_with fail
      go_ret
      exact ⟨rfl, hb1⟩
  · rcases hs with ⟨rfl, hab⟩ | ⟨hk2, hab⟩
    · go_enter Tryz.func12, Tryz.ntmps12
      go_wp2_with fail
      refine (works_any _ hG hB).mono ?_
      rintro e w1 ⟨rfl, hb1⟩
      go_wp2_with fail
      refine (H1.out _).mono ?_
      rintro e w2 ⟨rfl, hw⟩
      rw [hw]
      clear hw w2
      go_wp2_with fail
      refine (H2.out _).mono ?_
      rintro e w2 ⟨rfl, hw⟩
      rw [hw]
      clear hw w2
      go_wp2_with fail
      refine (H3.out _).mono ?_
      rintro e w2 ⟨rfl, hw⟩
      rw [hw]
      clear hw w2
      go_wp2_with fail
      refine (H4.out _).mono ?_
      rintro e w2 ⟨rfl, hw⟩
      rw [hw]
      clear hw w2
      go_wp2_with fail
      refine (H5.out _).mono ?_
      rintro e w2 ⟨rfl, hw⟩
      rw [hw]
      clear hw w2
      go_wp2_with fail
      go_ret
      exact ⟨rfl, hb1⟩
    · go_enter Tryz.func12, Tryz.ntmps12
      go_wp2_with fail
      refine (works_any _ hG hB).mono ?_
      rintro e w1 ⟨rfl, hb1⟩
      go_wp2_with fail
      refine (H1.out _).mono ?_
      rintro e w2 ⟨rfl, hw⟩
      rw [hw]
      clear hw w2
      go_wp2_with fail
      refine (H2.out _).mono ?_
      rintro e w2 ⟨rfl, hw⟩
      rw [hw]
      clear hw w2
      go_wp2_with fail
      refine (H3.out _).mono ?_
      rintro e w2 ⟨rfl, hw⟩
      rw [hw]
      clear hw w2
      go_wp2_with fail
      refine (H4.out _).mono ?_
      rintro e w2 ⟨rfl, hw⟩
      rw [hw]
      clear hw w2
      go_wp2_with fail
      refine (H5.out _).mono ?_
      rintro e w2 ⟨rfl, hw⟩
      rw [hw]
      clear hw w2
      go_wp2_with fail
      go_ret
      exact ⟨rfl, hb1⟩
  · rcases hs with ⟨rfl, hab⟩ | ⟨hk2, hab⟩
    · go_enter Tryz.func12, Tryz.ntmps12
      go_wp2_with fail
      refine (works_any _ hG hB).mono ?_
      rintro e w1 ⟨rfl, hb1⟩
      go_wp2_with fail
      refine (H1.out _).mono ?_
      rintro e w2 ⟨rfl, hw⟩
      rw [hw]
      clear hw w2
      go_wp2_with fail
      refine (H2.out _).mono ?_
      rintro e w2 ⟨rfl, hw⟩
      rw [hw]
      clear hw w2
      go_wp2_with fail
      refine (H3.out _).mono ?_
      rintro e w2 ⟨rfl, hw⟩
      rw [hw]
      clear hw w2
      go_wp2_with fail
      refine (H4.out _).mono ?_
      rintro e w2 ⟨rfl, hw⟩
      rw [hw]
      clear hw w2
      go_wp2_with fail
      refine (H5.out _).mono ?_
      rintro e w2 ⟨rfl, hw⟩
      rw [hw]
      clear hw w2
      go_wp2_with fail
      go_ret
      exact ⟨rfl, hb1⟩
    · go_enter Tryz.func12, Tryz.ntmps12
      go_wp2_with fail
      refine (works_any _ hG hB).mono ?_
      rintro e w1 ⟨rfl, hb1⟩
      go_wp2_with fail
      refine (H1.out _).mono ?_
      rintro e w2 ⟨rfl, hw⟩
      rw [hw]
      clear hw w2
      go_wp2_with fail
      refine (H2.out _).mono ?_
      rintro e w2 ⟨rfl, hw⟩
      rw [hw]
      clear hw w2
      go_wp2_with fail
      refine (H3.out _).mono ?_
      rintro e w2 ⟨rfl, hw⟩
      rw [hw]
      clear hw w2
      go_wp2_with fail
      refine (H4.out _).mono ?_
      rintro e w2 ⟨rfl, hw⟩
      rw [hw]
      clear hw w2
      go_wp2_with fail
      refine (H5.out _).mono ?_
      rintro e w2 ⟨rfl, hw⟩
      rw [hw]
      clear hw w2
      go_wp2_with fail
      go_ret
      exact ⟨rfl, hb1⟩
  · rcases hs with ⟨rfl, hab⟩ | ⟨hk2, hab⟩
    · go_enter Tryz.func12, Tryz.ntmps12
      go_wp2_with fail
      refine (works_any _ hG hB).mono ?_
      rintro e w1 ⟨rfl, hb1⟩
      go_wp2_with fail
      refine (H1.out _).mono ?_
      rintro e w2 ⟨rfl, hw⟩
      rw [hw]
      clear hw w2
      go_wp2_with fail
      refine (H2.out _).mono ?_
      rintro e w2 ⟨rfl, hw⟩
      rw [hw]
      clear hw w2
      go_wp2_with fail
      refine (H3.out _).mono ?_
      rintro e w2 ⟨rfl, hw⟩
      rw [hw]
      clear hw w2
      go_wp2_with fail
      refine (H4.out _).mono ?_
      rintro e w2 ⟨rfl, hw⟩
      rw [hw]
      clear hw w2
      go_wp2_with fail
      refine (H5.out _).mono ?_
      rintro e w2 ⟨rfl, hw⟩
      rw [hw]
      clear hw w2
      go_wp2_with fail
      go_ret
      exact ⟨rfl, hb1⟩
    · go_enter Tryz.func12, Tryz.ntmps12
      go_wp2_with fail
      refine (works_any _ hG hB).mono ?_
      rintro e w1 ⟨rfl, hb1⟩
      go_wp2_with fail
      refine (H1.out _).mono ?_
      rintro e w2 ⟨rfl, hw⟩
      rw [hw]
      clear hw w2
      go_wp2_with fail
      refine (H2.out _).mono ?_
      rintro e w2 ⟨rfl, hw⟩
      rw [hw]
      clear hw w2
      go_wp2_with fail
      refine (H3.out _).mono ?_
      rintro e w2 ⟨rfl, hw⟩
      rw [hw]
      clear hw w2
      go_wp2_with fail
      refine (H4.out _).mono ?_
      rintro e w2 ⟨rfl, hw⟩
      rw [hw]
      clear hw w2
      go_wp2_with fail
      refine (H5.out _).mono ?_
      rintro e w2 ⟨rfl, hw⟩
      rw [hw]
      clear hw w2
      go_wp2_with fail
      go_ret
      exact ⟨rfl, hb1⟩
  · rcases hs with ⟨rfl, hab⟩ | ⟨hk2, hab⟩
    · go_enter Tryz.func12, Tryz.ntmps12
      go_wp2_with fail
      refine (works_any _ hG hB).mono ?_
      rintro e w1 ⟨rfl, hb1⟩
      go_wp2_with fail
      refine (H1.out _).mono ?_
      rintro e w2 ⟨rfl, hw⟩
      rw [hw]
      clear hw w2
      go_wp2_with fail
      refine (H2.out _).mono ?_
      rintro e w2 ⟨rfl, hw⟩
      rw [hw]
      clear hw w2
      go_wp2_with fail
      refine (H3.out _).mono ?_
      rintro e w2 ⟨rfl, hw⟩
      rw [hw]
      clear hw w2
      go_wp2_with fail
      refine (H4.out _).mono ?_
      rintro e w2 ⟨rfl, hw⟩
      rw [hw]
      clear hw w2
      go_wp2_with fail
      refine (H5.out _).mono ?_
      rintro e w2 ⟨rfl, hw⟩
      rw [hw]
      clear hw w2
      go_wp2_with fail
      go_ret
      exact ⟨rfl, hb1⟩
    · go_enter Tryz.func12, Tryz.ntmps12
      go_wp2_with fail
      refine (works_any _ hG hB).mono ?_
      rintro e w1 ⟨rfl, hb1⟩
      go_wp2_with fail
      refine (H1.out _).mono ?_
      rintro e w2 ⟨rfl, hw⟩
      rw [hw]
      clear hw w2
      go_wp2_with fail
      refine (H2.out _).mono ?_
      rintro e w2 ⟨rfl, hw⟩
      rw [hw]
      clear hw w2
      go_wp2_with fail
      refine (H3.out _).mono ?_
      rintro e w2 ⟨rfl, hw⟩
      rw [hw]
      clear hw w2
      go_wp2_with fail
      refine (H4.out _).mono ?_
      rintro e w2 ⟨rfl, hw⟩
      rw [hw]
      clear hw w2
      go_wp2_with fail
      refine (H5.out _).mono ?_
      rintro e w2 ⟨rfl, hw⟩
      rw [hw]
      clear hw w2
      go_wp2_with fail
      go_ret
      exact ⟨rfl, hb1⟩
  · rcases hs with ⟨rfl, hab⟩ | ⟨hk2, hab⟩
    · go_enter Tryz.func12, Tryz.ntmps12
      go_wp2_with fail
      refine (works_any _ hG hB).mono ?_
      rintro e w1 ⟨rfl, hb1⟩
      go_wp2_with fail
      refine (H1.out _).mono ?_
      rintro e w2 ⟨rfl, hw⟩
      rw [hw]
      clear hw w2
      go_wp2_with fail
      refine (H2.out _).mono ?_
      rintro e w2 ⟨rfl, hw⟩
      rw [hw]
      clear hw w2
      go_wp2_with fail
      refine (H3.out _).mono ?_
      rintro e w2 ⟨rfl, hw⟩
      rw [hw]
      clear hw w2
      go_wp2_with fail
      refine (H4.out _).mono ?_
      rintro e w2 ⟨rfl, hw⟩
      rw [hw]
      clear hw w2
      go_wp2_with fail
      refine (H5.out _).mono ?_
      rintro e w2 ⟨rfl, hw⟩
      rw [hw]
      clear hw w2
      go_wp2_with fail
      go_ret
      exact ⟨rfl, hb1⟩
    · go_enter Tryz.func12, Tryz.ntmps12
      go_wp2_with fail
      refine (works_any _ hG hB).mono ?_
      rintro e w1 ⟨rfl, hb1⟩
      go_wp2_with fail
      refine (H1.out _).mono ?_
      rintro e w2 ⟨rfl, hw⟩
      rw [hw]
      clear hw w2
      go_wp2_with fail
      refine (H2.out _).mono ?_
      rintro e w2 ⟨rfl, hw⟩
      rw [hw]
      clear hw w2
      go_wp2_with fail
      refine (H3.out _).mono ?_
      rintro e w2 ⟨rfl, hw⟩
      rw [hw]
      clear hw w2
      go_wp2_with fail
      refine (H4.out _).mono ?_
      rintro e w2 ⟨rfl, hw⟩
      rw [hw]
      clear hw w2
      go_wp2_with fail
      refine (H5.out _).mono ?_
      rintro e w2 ⟨rfl, hw⟩
      rw [hw]
      clear hw w2
      go_wp2_with fail
      go_ret
      exact ⟨rfl, hb1⟩
theorem row_any {B : Nat} (k a b c : Int) (w : World) (hG : Good B w) (hB : B ≤ w.heap.size) (ha0 : 0 ≤ a) (ha1 : a < 18446744073709551616) (hb0 : 0 ≤ b) (hb1 : b < 18446744073709551616) (hc0 : 0 ≤ c) (hc1 : c < 18446744073709551616) :
    Calls Tryz.prog 12 #[.int .u8 k, .int .u64 a, .int .u64 b, .int .u64 c] w fun e w' => e = .returned (.bool true) ∧ Below B w w' := by
  have hneg : cmp3 (keyN k b) (keyN k a) = -cmp3 (keyN k a) (keyN k b) := by
    unfold cmp3
    repeat' split
    all_goals omega
  have hself : cmp3 (keyN k a) (keyN k a) = 0 := by unfold cmp3; rw [if_neg (by omega), if_neg (by omega)]
  have hz : (cmp3 (keyN k a) (keyN k b) = 0) ↔ keyN k a = keyN k b := by
    unfold cmp3
    repeat' split
    all_goals omega
  refine row_walk k a b c _ _ _ (decide (cmp3 (keyN k a) (keyN k b) = 0)) w hG hB (Lib.hid fun w => compare_any k a b w ha0 ha1 hb0 hb1) (Lib.hid fun w => compare_any k b c w hb0 hb1 hc0 hc1) (Lib.hid fun w => compare_any k a c w ha0 ha1 hc0 hc1)
    (Lib.hid fun w => hneg ▸ compare_any k b a w hb0 hb1 ha0 ha1) (Lib.hid fun w => hself ▸ compare_any k a a w ha0 ha1 ha0 ha1) ?_ ?_
  · clear hneg hself hz
    generalize keyN k a = p
    generalize keyN k b = q
    generalize keyN k c = r
    simp only [decide_eq_true_eq, decide_eq_false_iff_not]
    unfold cmp3
    rcases Int.lt_trichotomy p q with h1 | h1 | h1 <;> rcases Int.lt_trichotomy q r with h2 | h2 | h2 <;> rcases Int.lt_trichotomy p r with h3 | h3 | h3 <;> (repeat' split) <;> omega
  · by_cases hk : k = 2
    · refine Or.inl ⟨hk, ?_⟩
      subst hk
      rw [Int.tmod_eq_emod_of_nonneg ha0, Int.tmod_eq_emod_of_nonneg hb0, Bool.eq_iff_iff, beq_iff_eq, decide_eq_true_eq, hz]
      exact (key_inj2 a b ha0 hb0).symm
    · refine Or.inr ⟨by rw [beq_eq_false_iff_ne]; exact hk, ?_⟩
      rw [Bool.eq_iff_iff, beq_iff_eq, decide_eq_true_eq, hz]
      exact (key_inj k a b ha0 ha1 hb0 hb1 hk).symm
end Go.Proofs.YtdfodfflkmcgpaaGreatDoor
