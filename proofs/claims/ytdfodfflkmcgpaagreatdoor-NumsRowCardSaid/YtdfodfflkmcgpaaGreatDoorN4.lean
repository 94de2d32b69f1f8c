/- Compare: it orders by a number of its own for each operand, at every kind. -/
import Derived.Test.YtdfodfflkmcgpaaGreatDoorN2
import Derived.Lib.VarintBits
namespace Go.Proofs.YtdfodfflkmcgpaaGreatDoor
open Go.RowKit Go.Sort
set_option linter.unusedVariables false
set_option maxRecDepth 100000
def cmp3 (a b : Int) : Int := if a < b then -1 else if b < a then 1 else 0
def rankN (a : Int) : Int := if a < 9223372036854775808 then a + 9223372036854775808 else 18446744073709551615 - a
def keyN (k a : Int) : Int := if sortN k = 2 ∨ sortN k = 3 then wrap64 a else if sortN k = 6 then rankN (a % 4294967296 * 4294967296) else if sortN k = 7 then rankN a else a
theorem order52 (a b : Int) (w : World) : Calls Tryz.prog 52 #[.int .i64 a, .int .i64 b] w fun e w' => e = .returned (.int .i64 (cmp3 a b)) ∧ w' = w := by
  rcases Int.lt_trichotomy a b with h | h | h
  · have hr : cmp3 a b = -1 := by unfold cmp3; rw [if_pos h]
    rw [hr]
    clear hr
    go_enter Tryz.func52, Tryz.ntmps52
    go_wp2_with fail
    go_ret
    exact ⟨rfl, rfl⟩
  · subst h
    have hr : cmp3 a a = 0 := by unfold cmp3; rw [if_neg (by omega), if_neg (by omega)]
    rw [hr]
    clear hr
    go_enter Tryz.func52, Tryz.ntmps52
    go_wp2_with fail
    go_ret
    exact ⟨rfl, rfl⟩
  · have hr : cmp3 a b = 1 := by unfold cmp3; rw [if_neg (by omega), if_pos h]
    rw [hr]
    clear hr
    go_enter Tryz.func52, Tryz.ntmps52
    go_wp2_with fail
    go_ret
    exact ⟨rfl, rfl⟩
theorem order53 (a b : Int) (w : World) : Calls Tryz.prog 53 #[.int .u64 a, .int .u64 b] w fun e w' => e = .returned (.int .i64 (cmp3 a b)) ∧ w' = w := by
  rcases Int.lt_trichotomy a b with h | h | h
  · have hr : cmp3 a b = -1 := by unfold cmp3; rw [if_pos h]
    rw [hr]
    clear hr
    go_enter Tryz.func53, Tryz.ntmps53
    go_wp2_with fail
    go_ret
    exact ⟨rfl, rfl⟩
  · subst h
    have hr : cmp3 a a = 0 := by unfold cmp3; rw [if_neg (by omega), if_neg (by omega)]
    rw [hr]
    clear hr
    go_enter Tryz.func53, Tryz.ntmps53
    go_wp2_with fail
    go_ret
    exact ⟨rfl, rfl⟩
  · have hr : cmp3 a b = 1 := by unfold cmp3; rw [if_neg (by omega), if_pos h]
    rw [hr]
    clear hr
    go_enter Tryz.func53, Tryz.ntmps53
    go_wp2_with fail
    go_ret
    exact ⟨rfl, rfl⟩
theorem u64_not (a : Int) (h0 : 0 ≤ a) (h1 : a < 18446744073709551616) : bits .xor .u64 IntKind.u64.max a = 18446744073709551615 - a := by
  obtain ⟨n, rfl⟩ : ∃ n : Nat, a = n := ⟨a.toNat, by omega⟩
  rw [show IntKind.u64.max = ((18446744073709551615 : Nat) : Int) by rfl, u64_xor_nat _ _ (by omega) (by omega)]
  have h := BitVec.allOnes_xor (x := BitVec.ofNat 64 n)
  have h2 := congrArg BitVec.toNat h
  rw [BitVec.toNat_xor, BitVec.toNat_not, BitVec.toNat_allOnes, BitVec.toNat_ofNat, Nat.mod_eq_of_lt (show n < 2 ^ 64 by omega)] at h2
  have e : (18446744073709551615 : Nat) = 2 ^ 64 - 1 := by decide
  rw [e, h2]
  omega
theorem rank_any (a : Int) (w : World) (h0 : 0 ≤ a) (h1 : a < 18446744073709551616) : Calls Tryz.prog 54 #[.int .u64 a] w fun e w' => e = .returned (.int .u64 (rankN a)) ∧ w' = w := by
  by_cases h : a < 9223372036854775808
  · have hq : a / 9223372036854775808 = 0 := by omega
    have hr : rankN a = a + 9223372036854775808 := by unfold rankN; rw [if_pos h]
    have ho : bits .or .u64 a 9223372036854775808 = a + 9223372036854775808 := u64_orv63 a 9223372036854775808 h0 h (by decide) (by decide) (by decide)
    rw [hr, ← ho]
    clear hr ho h
    go_enter Tryz.func54, Tryz.ntmps54
    go_wp2_with fail
    go_ret
    exact ⟨rfl, rfl⟩
  · have hq : a / 9223372036854775808 = 1 := by omega
    have hr : rankN a = 18446744073709551615 - a := by unfold rankN; rw [if_neg h]
    rw [hr, ← u64_not a h0 h1]
    clear hr h
    go_enter Tryz.func54, Tryz.ntmps54
    go_wp2_with fail
    go_ret
    exact ⟨rfl, rfl⟩
theorem compare_any (k a b : Int) (w : World) (ha0 : 0 ≤ a) (ha1 : a < 18446744073709551616) (hb0 : 0 ≤ b) (hb1 : b < 18446744073709551616) : Calls Tryz.prog 22 #[.int .u8 k, .int .u64 a, .int .u64 b] w fun e w' => e = .returned (.int .i64 (cmp3 (keyN k a) (keyN k b))) ∧ w' = w := by
  obtain ⟨s, hs⟩ : ∃ s, sortN k = s := ⟨_, rfl⟩
  have hc := sort_cases k
  have HS := fun w => sort_any k w
  have hka : keyN k a = if s = 2 ∨ s = 3 then wrap64 a else if s = 6 then rankN (a % 4294967296 * 4294967296) else if s = 7 then rankN a else a := by rw [← hs]; rfl
  have hkb : keyN k b = if s = 2 ∨ s = 3 then wrap64 b else if s = 6 then rankN (b % 4294967296 * 4294967296) else if s = 7 then rankN b else b := by rw [← hs]; rfl
  rw [hka, hkb]
  rw [hs] at hc
  simp only [hs] at HS
  have H := Lib.hid HS
  clear HS hs hka hkb
  rcases hc with rfl | rfl | rfl | rfl | rfl | rfl | rfl | rfl
  · show Calls Tryz.prog 22 #[.int .u8 k, .int .u64 a, .int .u64 b] w fun e w' => e = .returned (.int .i64 (cmp3 (a) (b))) ∧ w' = w
    go_enter Tryz.func22, Tryz.ntmps22
    go_wp2_with fail
    refine (H.out _).mono ?_
    rintro e w' ⟨rfl, hw⟩
    subst hw
    go_wp2_with fail
    refine (order53 (a) (b) _).mono ?_
    rintro e w2 ⟨rfl, hw⟩
    rw [hw]
    clear hw w2
    go_wp2_with fail
    go_ret
    exact ⟨rfl, rfl⟩
  · show Calls Tryz.prog 22 #[.int .u8 k, .int .u64 a, .int .u64 b] w fun e w' => e = .returned (.int .i64 (cmp3 (a) (b))) ∧ w' = w
    go_enter Tryz.func22, Tryz.ntmps22
    go_wp2_with fail
    refine (H.out _).mono ?_
    rintro e w' ⟨rfl, hw⟩
    subst hw
    go_wp2_with fail
    refine (order53 (a) (b) _).mono ?_
    rintro e w2 ⟨rfl, hw⟩
    rw [hw]
    clear hw w2
    go_wp2_with fail
    go_ret
    exact ⟨rfl, rfl⟩
  · show Calls Tryz.prog 22 #[.int .u8 k, .int .u64 a, .int .u64 b] w fun e w' => e = .returned (.int .i64 (cmp3 (wrap64 a) (wrap64 b))) ∧ w' = w
    go_enter Tryz.func22, Tryz.ntmps22
    go_wp2_with fail
    refine (H.out _).mono ?_
    rintro e w' ⟨rfl, hw⟩
    subst hw
    go_wp2_with fail
    refine (order52 (wrap64 a) (wrap64 b) _).mono ?_
    rintro e w2 ⟨rfl, hw⟩
    rw [hw]
    clear hw w2
    go_wp2_with fail
    go_ret
    exact ⟨rfl, rfl⟩
  · show Calls Tryz.prog 22 #[.int .u8 k, .int .u64 a, .int .u64 b] w fun e w' => e = .returned (.int .i64 (cmp3 (wrap64 a) (wrap64 b))) ∧ w' = w
    go_enter Tryz.func22, Tryz.ntmps22
    go_wp2_with fail
    refine (H.out _).mono ?_
    rintro e w' ⟨rfl, hw⟩
    subst hw
    go_wp2_with fail
    refine (order52 (wrap64 a) (wrap64 b) _).mono ?_
    rintro e w2 ⟨rfl, hw⟩
    rw [hw]
    clear hw w2
    go_wp2_with fail
    go_ret
    exact ⟨rfl, rfl⟩
  · show Calls Tryz.prog 22 #[.int .u8 k, .int .u64 a, .int .u64 b] w fun e w' => e = .returned (.int .i64 (cmp3 (a) (b))) ∧ w' = w
    go_enter Tryz.func22, Tryz.ntmps22
    go_wp2_with fail
    refine (H.out _).mono ?_
    rintro e w' ⟨rfl, hw⟩
    subst hw
    go_wp2_with fail
    refine (order53 (a) (b) _).mono ?_
    rintro e w2 ⟨rfl, hw⟩
    rw [hw]
    clear hw w2
    go_wp2_with fail
    go_ret
    exact ⟨rfl, rfl⟩
  · show Calls Tryz.prog 22 #[.int .u8 k, .int .u64 a, .int .u64 b] w fun e w' => e = .returned (.int .i64 (cmp3 (a) (b))) ∧ w' = w
    go_enter Tryz.func22, Tryz.ntmps22
    go_wp2_with fail
    refine (H.out _).mono ?_
    rintro e w' ⟨rfl, hw⟩
    subst hw
    go_wp2_with fail
    refine (order53 (a) (b) _).mono ?_
    rintro e w2 ⟨rfl, hw⟩
    rw [hw]
    clear hw w2
    go_wp2_with fail
    go_ret
    exact ⟨rfl, rfl⟩
  · show Calls Tryz.prog 22 #[.int .u8 k, .int .u64 a, .int .u64 b] w fun e w' => e = .returned (.int .i64 (cmp3 (rankN (a % 4294967296 * 4294967296)) (rankN (b % 4294967296 * 4294967296)))) ∧ w' = w
    have sa : IntKind.u64.wrap (a * 4294967296) = a % 4294967296 * 4294967296 := by rw [IntKind.wrap_u64]; omega
    have sb : IntKind.u64.wrap (b * 4294967296) = b % 4294967296 * 4294967296 := by rw [IntKind.wrap_u64]; omega
    go_enter Tryz.func22, Tryz.ntmps22
    go_wp2_with fail
    refine (H.out _).mono ?_
    rintro e w' ⟨rfl, hw⟩
    subst hw
    go_wp2_with fail
    refine (rank_any (a % 4294967296 * 4294967296) _ (by omega) (by omega)).mono ?_
    rintro e w2 ⟨rfl, hw⟩
    rw [hw]
    clear hw w2
    go_wp2_with fail
    refine (rank_any (b % 4294967296 * 4294967296) _ (by omega) (by omega)).mono ?_
    rintro e w2 ⟨rfl, hw⟩
    rw [hw]
    clear hw w2
    go_wp2_with fail
    refine (order53 (rankN (a % 4294967296 * 4294967296)) (rankN (b % 4294967296 * 4294967296)) _).mono ?_
    rintro e w2 ⟨rfl, hw⟩
    rw [hw]
    clear hw w2
    go_wp2_with fail
    go_ret
    exact ⟨rfl, rfl⟩
  · show Calls Tryz.prog 22 #[.int .u8 k, .int .u64 a, .int .u64 b] w fun e w' => e = .returned (.int .i64 (cmp3 (rankN a) (rankN b))) ∧ w' = w
    go_enter Tryz.func22, Tryz.ntmps22
    go_wp2_with fail
    refine (H.out _).mono ?_
    rintro e w' ⟨rfl, hw⟩
    subst hw
    go_wp2_with fail
    refine (rank_any a _ (by omega) (by omega)).mono ?_
    rintro e w2 ⟨rfl, hw⟩
    rw [hw]
    clear hw w2
    go_wp2_with fail
    refine (rank_any b _ (by omega) (by omega)).mono ?_
    rintro e w2 ⟨rfl, hw⟩
    rw [hw]
    clear hw w2
    go_wp2_with fail
    refine (order53 (rankN a) (rankN b) _).mono ?_
    rintro e w2 ⟨rfl, hw⟩
    rw [hw]
    clear hw w2
    go_wp2_with fail
    go_ret
    exact ⟨rfl, rfl⟩
end Go.Proofs.YtdfodfflkmcgpaaGreatDoor
