/- The small functions of the library's floating numbers: each returns what is reckoned here; the world has drawn at most. -/
import Derived.Test.YtdfodfflkmcgpaaGreatDoorA1
import Derived.Test.YtdfodfflkmcgpaaGreatDoorSh
import Derived.WalkKit
import Derived.Deep.QuietTactic
import Derived.BigQuiet
import Derived.WalkLawsBesides
import Derived.Outline
import Derived.Lib.Hide
namespace Go.Proofs.YtdfodfflkmcgpaaGreatDoor
open Go.RowKit
theorem ret_i {k : IntKind} {a b : Int} (h : a = b) : Ending.returned (.int k a) = .returned (.int k b) := by rw [h]
theorem i64_and63 (s : Nat) (hs : s < 64) : bits BinOp.and IntKind.i64 (s : Int) 63 = (s : Int) := by
  have h : ∀ t : Fin 64, bits BinOp.and IntKind.i64 ((t.val : Nat) : Int) 63 = ((t.val : Nat) : Int) := by decide +kernel
  exact h ⟨s, hs⟩
theorem u64_and1 (u : Int) (h0 : 0 ≤ u) (h1 : u < 18446744073709551616) : bits .and .u64 u 1 = u % 2 := by
  rw [u64_and u 1 h0 h1 (by omega) (by omega), show (1 : Int).toNat = 1 from rfl, nat_mask1]; omega
theorem u64_wrap_id (u : Int) (h0 : 0 ≤ u) (h1 : u < 18446744073709551616) : IntKind.u64.wrap u = u := by rw [IntKind.wrap_u64]; omega

theorem bool2_u64 (b : Bool) (w : World) : Calls Tryz.prog 214 #[.bool b] w fun e w' => e = .returned (.int .u64 (b.toNat : Int)) ∧ w' = w := by
  cases b
  all_goals
    go_enter Tryz.func214, Tryz.ntmps214
    go_wp2
    go_ret
    exact ⟨rfl, rfl⟩
theorem bool2_un (b : Bool) (w : World) : Calls Tryz.prog 218 #[.bool b] w fun e w' => e = .returned (.int .u64 (b.toNat : Int)) ∧ w' = w := by
  cases b
  all_goals
    go_enter Tryz.func218, Tryz.ntmps218
    go_wp2
    go_ret
    exact ⟨rfl, rfl⟩
theorem bool2_u32 (b : Bool) (w : World) : Calls Tryz.prog 208 #[.bool b] w fun e w' => e = .returned (.int .u32 (b.toNat : Int)) ∧ w' = w := by
  cases b
  all_goals
    go_enter Tryz.func208, Tryz.ntmps208
    go_wp2
    go_ret
    exact ⟨rfl, rfl⟩
theorem bool2_i (b : Bool) (w : World) : Calls Tryz.prog 141 #[.bool b] w fun e w' => e = .returned (.int .i64 (b.toNat : Int)) ∧ w' = w := by
  cases b
  all_goals
    go_enter Tryz.func141, Tryz.ntmps141
    go_wp2
    go_ret
    exact ⟨rfl, rfl⟩
theorem log10Pow2_any (x : Int) (w : World) (h0 : -2000 ≤ x) (h1 : x ≤ 2000) :
    Calls Tryz.prog 139 #[.int .i64 x] w fun e w' => e = .returned (.int .i64 (x * 78913 / 262144)) ∧ w' = w := by
  go_enter Tryz.func139, Tryz.ntmps139
  go_wp2
  go_ret
  exact ⟨rfl, rfl⟩
theorem log2Pow10_any (x : Int) (w : World) (h0 : -2000 ≤ x) (h1 : x ≤ 2000) :
    Calls Tryz.prog 191 #[.int .i64 x] w fun e w' => e = .returned (.int .i64 (x * 108853 / 32768)) ∧ w' = w := by
  go_enter Tryz.func191, Tryz.ntmps191
  go_wp2
  go_ret
  exact ⟨rfl, rfl⟩
theorem skewed_any (x : Int) (w : World) (h0 : -2000 ≤ x) (h1 : x ≤ 2000) :
    Calls Tryz.prog 189 #[.int .i64 x] w fun e w' => e = .returned (.int .i64 ((x * 631305 - 261663) / 2097152)) ∧ w' = w := by
  go_enter Tryz.func189, Tryz.ntmps189
  go_wp2
  go_ret
  exact ⟨rfl, rfl⟩
theorem ceil_any (u : Int) (w : World) (h0 : 0 ≤ u) (h1 : u < 18446744073709551600) :
    Calls Tryz.prog 194 #[.int .u64 u] w fun e w' => e = .returned (.int .u64 ((u + 3) / 4)) ∧ w' = w := by
  go_enter Tryz.func194, Tryz.ntmps194
  go_wp2
  go_ret
  exact ⟨rfl, rfl⟩
theorem floor_any (u : Int) (w : World) (h0 : 0 ≤ u) (h1 : u < 18446744073709551600) :
    Calls Tryz.prog 195 #[.int .u64 u] w fun e w' => e = .returned (.int .u64 (u / 4)) ∧ w' = w := by
  go_enter Tryz.func195, Tryz.ntmps195
  go_wp2
  go_ret
  exact ⟨rfl, rfl⟩
theorem round_any (u : Int) (w : World) (h0 : 0 ≤ u) (h1 : u < 18446744073709551600) :
    Calls Tryz.prog 196 #[.int .u64 u] w fun e w' => e = .returned (.int .u64 ((u + 1 + u / 4 % 2) / 4)) ∧ w' = w := by
  go_enter Tryz.func196, Tryz.ntmps196
  go_wp2
  go_ret
  exact ⟨ret_i (by rw [u64_and1 _ (by omega) (by omega), u64_wrap_id _ (by omega) (by omega)]), rfl⟩
theorem nudge_any (u d : Int) (w : World) (h0 : 1 ≤ u) (h1 : u < 18446744073709551600) (h2 : -1 ≤ d) (h3 : d ≤ 1) :
    Calls Tryz.prog 193 #[.int .u64 u, .int .i64 d] w fun e w' => e = .returned (.int .u64 (u + d)) ∧ w' = w := by
  go_enter Tryz.func193, Tryz.ntmps193
  go_wp2
  go_ret
  exact ⟨ret_i (by rw [IntKind.wrap_u64, IntKind.wrap_u64]; omega), rfl⟩

theorem shl_shr_ne (H s : Nat) (hH : H < 18446744073709551616) : (IntKind.u64.wrap ((H : Int) / 2 ^ s * 2 ^ s) != (H : Int)) = decide (H % 2 ^ s ≠ 0) := by
  have e : ((H : Int) / 2 ^ s * 2 ^ s) = ((H / 2 ^ s * 2 ^ s : Nat) : Int) := by simp
  have hd := Nat.div_add_mod H (2 ^ s)
  rw [Nat.mul_comm] at hd
  generalize H / 2 ^ s * 2 ^ s = a at *
  rw [e, u64_wrap_id _ (by omega) (by omega)]
  rw [Bool.eq_iff_iff]; simp; omega

open Uscale in
set_option maxHeartbeats 400000 in
theorem uscale_any (x hi lo : Nat) (s : Nat) (b : Nat) (w : World) (hx0 : 4 ≤ x) (hx : x < 18446744073709551616) (hhi0 : 9223372036854775808 ≤ hi) (hhi : hi < 18446744073709551616) (hlo : lo < 18446744073709551616) (hs : s < 64)
   (c0 : w.cell? ⟨b, 0, none⟩ = some (.int .u64 hi)) (c1 : w.cell? ⟨b, 1, none⟩ = some (.int .u64 lo)) (c2 : w.cell? ⟨b, 2, none⟩ = some (.int .i64 s)) :
    Calls Tryz.prog 192 #[.int .u64 x, .pointer (some ⟨b, 0, none⟩)] w fun e w' => e = .returned (.int .u64 (uscaleF x hi lo s)) ∧ ∃ n, w' = w.drewN n := by
  have hm := i64_and63 s hs
  have hHb : 4 * 9223372036854775808 ≤ x * hi := Nat.mul_le_mul hx0 hhi0
  have hP : x * hi < 18446744073709551616 * 18446744073709551616 := Nat.mul_lt_mul'' hx hhi
  have hQ : x * lo < 18446744073709551616 * 18446744073709551616 := Nat.mul_lt_mul'' hx hlo
  have e1 := shl_shr_ne (x * hi / 18446744073709551616) s (by omega)
  by_cases hz : x * hi / 18446744073709551616 % 2 ^ s = 0
  · have hfin : (uscaleF x hi lo s : Int) = bits BinOp.or IntKind.u64 (IntKind.u64.wrap ((x : Int) * hi / 18446744073709551616 - ((decide ((x : Int) * hi % 18446744073709551616 < (x : Int) * lo / 18446744073709551616)).toNat : Int)) / 2 ^ s)
        ((decide (1 < IntKind.u64.wrap ((x : Int) * hi % 18446744073709551616 - (x : Int) * lo / 18446744073709551616))).toNat : Int) := by
      unfold uscaleF
      rw [if_pos hz]
      have d1 : ((x : Int) * hi / 18446744073709551616) = ((x * hi / 18446744073709551616 : Nat) : Int) := by simp
      have d2 : ((x : Int) * hi % 18446744073709551616) = ((x * hi % 18446744073709551616 : Nat) : Int) := by simp
      have d3 : ((x : Int) * lo / 18446744073709551616) = ((x * lo / 18446744073709551616 : Nat) : Int) := by simp
      rw [d1, d2, d3]
      have f1 : x * hi / 18446744073709551616 < 18446744073709551616 := by omega
      have f0 : 1 ≤ x * hi / 18446744073709551616 := by omega
      have f2 : x * hi % 18446744073709551616 < 18446744073709551616 := by omega
      have f3 : x * lo / 18446744073709551616 < 18446744073709551616 := by omega
      generalize x * hi / 18446744073709551616 = H at *
      generalize x * hi % 18446744073709551616 = M at *
      generalize x * lo / 18446744073709551616 = L at *
      have g1 : (decide ((M : Int) < L)) = decide (M < L) := by simp
      have g2 : IntKind.u64.wrap ((M : Int) - L) = (((M + 18446744073709551616 - L) % 18446744073709551616 : Nat) : Int) := by rw [IntKind.wrap_u64]; omega
      rw [g1, g2]
      have g3 : (decide ((1 : Int) < (((M + 18446744073709551616 - L) % 18446744073709551616 : Nat) : Int))) = decide (1 < (M + 18446744073709551616 - L) % 18446744073709551616) := by
        rw [Bool.eq_iff_iff]; simp; omega
      rw [g3]
      have g4 : ((decide (M < L)).toNat) ≤ 1 := Bool.toNat_le _
      have g5 : ((decide (1 < (M + 18446744073709551616 - L) % 18446744073709551616)).toNat) ≤ 1 := Bool.toNat_le _
      generalize (decide (M < L)).toNat = k at *
      generalize (decide (1 < (M + 18446744073709551616 - L) % 18446744073709551616)).toNat = j at *
      have g6 : IntKind.u64.wrap ((H : Int) - (k : Int)) = ((H - k : Nat) : Int) := by rw [IntKind.wrap_u64]; omega
      rw [g6]
      have g7 : (((H - k : Nat) : Int) / 2 ^ s) = (((H - k) / 2 ^ s : Nat) : Int) := by simp
      rw [g7, u64_or_nat _ _ (Nat.lt_of_le_of_lt (Nat.div_le_self _ _) (by omega)) (by omega)]
    have hne : (IntKind.u64.wrap ((x : Int) * hi / 18446744073709551616 / 2 ^ s * 2 ^ s) != (x : Int) * hi / 18446744073709551616) = false := by
      have d1 : ((x : Int) * hi / 18446744073709551616) = ((x * hi / 18446744073709551616 : Nat) : Int) := by simp
      rw [d1, e1]; simp [hz]
    have Hf := Lib.hid hfin
    clear hfin e1 hz hHb hP hQ
    go_enter Tryz.func192, Tryz.ntmps192
    go_wp2_with (first | (go_at_call 136; refine (Tryz.bits_Mul64 _ _ (by assumption) (by assumption) _).mono ?_; rintro e w' ⟨rfl, hw⟩; rw [hw]) | (go_at_call 214; refine (bool2_u64 _ _).mono ?_; rintro e w' ⟨rfl, hw⟩; rw [hw]))
    go_quiet ((go_at_call 214; exact Calls.quiet_of_same (bool2_u64 _ _)))
    go_wp2
    go_ret
    exact ⟨ret_i Hf.out.symm, _, rfl⟩
  · have hfin : (uscaleF x hi lo s : Int) = bits BinOp.or IntKind.u64 ((x : Int) * hi / 18446744073709551616 / 2 ^ s) 1 := by
      unfold uscaleF
      rw [if_neg hz]
      have d1 : ((x : Int) * hi / 18446744073709551616 / 2 ^ s) = ((x * hi / 18446744073709551616 / 2 ^ s : Nat) : Int) := by simp
      rw [d1]
      exact (u64_or_nat _ 1 (Nat.lt_of_le_of_lt (Nat.div_le_self _ _) (by omega)) (by omega)).symm
    have hne : (IntKind.u64.wrap ((x : Int) * hi / 18446744073709551616 / 2 ^ s * 2 ^ s) != (x : Int) * hi / 18446744073709551616) = true := by
      have d1 : ((x : Int) * hi / 18446744073709551616) = ((x * hi / 18446744073709551616 : Nat) : Int) := by simp
      rw [d1, e1]; simp [hz]
    have Hf := Lib.hid hfin
    clear hfin e1 hz hHb hP hQ
    go_enter Tryz.func192, Tryz.ntmps192
    go_wp2_with (first | (go_at_call 136; refine (Tryz.bits_Mul64 _ _ (by assumption) (by assumption) _).mono ?_; rintro e w' ⟨rfl, hw⟩; rw [hw]) | (go_at_call 214; refine (bool2_u64 _ _).mono ?_; rintro e w' ⟨rfl, hw⟩; rw [hw]))
    go_ret
    exact ⟨ret_i Hf.out.symm, 0, rfl⟩
end Go.Proofs.YtdfodfflkmcgpaaGreatDoor
