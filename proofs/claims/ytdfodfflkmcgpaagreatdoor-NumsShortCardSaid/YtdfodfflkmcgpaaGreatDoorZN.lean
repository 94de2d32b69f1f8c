/- sortOf and Fits, at every kind. -/
import Derived.Test.YtdfodfflkmcgpaaGreatDoorZA2
import Derived.Laws.DeepNot64
import Derived.Laws.MathBits
namespace Go.Proofs.YtdfodfflkmcgpaaGreatDoor
open Go.RowKit Go.Sort
set_option linter.unusedVariables false
set_option maxRecDepth 100000
/-- what a kind's numbers are. -/
def sortN (k : Int) : Int :=
  if k = 1 then 7 else
  if k = 2 then 6 else
  if k = 3 then 3 else
  if k = 4 then 5 else
  if k = 5 then 2 else
  if k = 6 then 5 else
  if k = 7 then 4 else
  if k = 8 then 1 else
  if k = 13 then 4 else
  if k = 14 then 2 else
  if k = 15 then 2 else
  if k = 16 then 3 else
  if k = 17 then 2 else
  if k = 18 then 3 else
  0
set_option maxHeartbeats 4000000 in
theorem sort_any (k : Int) (w : World) : Calls Tryz.prog 36 #[.int .u8 k] w fun e w' => e = .returned (.int .i64 (sortN k)) ∧ w' = w := by
  by_cases h1 : k = 1
  · subst h1
    go_enter Tryz.func36, Tryz.ntmps36
    go_wp2_with fail
    go_ret
    exact ⟨rfl, rfl⟩
  by_cases h2 : k = 2
  · subst h2
    go_enter Tryz.func36, Tryz.ntmps36
    go_wp2_with fail
    go_ret
    exact ⟨rfl, rfl⟩
  by_cases h3 : k = 3
  · subst h3
    go_enter Tryz.func36, Tryz.ntmps36
    go_wp2_with fail
    go_ret
    exact ⟨rfl, rfl⟩
  by_cases h4 : k = 4
  · subst h4
    go_enter Tryz.func36, Tryz.ntmps36
    go_wp2_with fail
    go_ret
    exact ⟨rfl, rfl⟩
  by_cases h5 : k = 5
  · subst h5
    go_enter Tryz.func36, Tryz.ntmps36
    go_wp2_with fail
    go_ret
    exact ⟨rfl, rfl⟩
  by_cases h6 : k = 6
  · subst h6
    go_enter Tryz.func36, Tryz.ntmps36
    go_wp2_with fail
    go_ret
    exact ⟨rfl, rfl⟩
  by_cases h7 : k = 7
  · subst h7
    go_enter Tryz.func36, Tryz.ntmps36
    go_wp2_with fail
    go_ret
    exact ⟨rfl, rfl⟩
  by_cases h8 : k = 8
  · subst h8
    go_enter Tryz.func36, Tryz.ntmps36
    go_wp2_with fail
    go_ret
    exact ⟨rfl, rfl⟩
  by_cases h13 : k = 13
  · subst h13
    go_enter Tryz.func36, Tryz.ntmps36
    go_wp2_with fail
    go_ret
    exact ⟨rfl, rfl⟩
  by_cases h14 : k = 14
  · subst h14
    go_enter Tryz.func36, Tryz.ntmps36
    go_wp2_with fail
    go_ret
    exact ⟨rfl, rfl⟩
  by_cases h15 : k = 15
  · subst h15
    go_enter Tryz.func36, Tryz.ntmps36
    go_wp2_with fail
    go_ret
    exact ⟨rfl, rfl⟩
  by_cases h16 : k = 16
  · subst h16
    go_enter Tryz.func36, Tryz.ntmps36
    go_wp2_with fail
    go_ret
    exact ⟨rfl, rfl⟩
  by_cases h17 : k = 17
  · subst h17
    go_enter Tryz.func36, Tryz.ntmps36
    go_wp2_with fail
    go_ret
    exact ⟨rfl, rfl⟩
  by_cases h18 : k = 18
  · subst h18
    go_enter Tryz.func36, Tryz.ntmps36
    go_wp2_with fail
    go_ret
    exact ⟨rfl, rfl⟩
  have hs : sortN k = 0 := by unfold sortN; simp only [if_neg h1, if_neg h2, if_neg h3, if_neg h4, if_neg h5, if_neg h6, if_neg h7, if_neg h8, if_neg h13, if_neg h14, if_neg h15, if_neg h16, if_neg h17, if_neg h18]
  rw [hs]
  have b1 : (k == 1) = false := by rw [beq_eq_false_iff_ne]; exact h1
  have b2 : (k == 2) = false := by rw [beq_eq_false_iff_ne]; exact h2
  have b3 : (k == 3) = false := by rw [beq_eq_false_iff_ne]; exact h3
  have b4 : (k == 4) = false := by rw [beq_eq_false_iff_ne]; exact h4
  have b5 : (k == 5) = false := by rw [beq_eq_false_iff_ne]; exact h5
  have b6 : (k == 6) = false := by rw [beq_eq_false_iff_ne]; exact h6
  have b7 : (k == 7) = false := by rw [beq_eq_false_iff_ne]; exact h7
  have b8 : (k == 8) = false := by rw [beq_eq_false_iff_ne]; exact h8
  have b13 : (k == 13) = false := by rw [beq_eq_false_iff_ne]; exact h13
  have b14 : (k == 14) = false := by rw [beq_eq_false_iff_ne]; exact h14
  have b15 : (k == 15) = false := by rw [beq_eq_false_iff_ne]; exact h15
  have b16 : (k == 16) = false := by rw [beq_eq_false_iff_ne]; exact h16
  have b17 : (k == 17) = false := by rw [beq_eq_false_iff_ne]; exact h17
  have b18 : (k == 18) = false := by rw [beq_eq_false_iff_ne]; exact h18
  clear hs h1 h2 h3 h4 h5 h6 h7 h8 h13 h14 h15 h16 h17 h18
  go_enter Tryz.func36, Tryz.ntmps36
  go_wp2_with fail
  go_ret
  exact ⟨rfl, rfl⟩
end Go.Proofs.YtdfodfflkmcgpaaGreatDoor
/- Fits, Narrow, order, rank, Compare: what each returns, at every input. -/
namespace Go.Proofs.YtdfodfflkmcgpaaGreatDoor
open Go.RowKit Go.Sort
set_option linter.unusedVariables false
set_option maxRecDepth 100000
/-- the low 32 bits with their sign, as 64 bits. -/
def sx32 (v : Int) : Int := if v % 4294967296 < 2147483648 then v % 4294967296 else v % 4294967296 + 18446744069414584320
def fitsN (k b : Int) : Bool := if sortN k = 0 then false else if sortN k = 1 then decide (b ≤ 1) else if sortN k = 2 then decide (sx32 b = b) else if sortN k = 4 ∨ sortN k = 6 then decide (b ≤ 4294967295) else true
def unz (v : Int) : Int := if v % 2 = 0 then v / 2 else 18446744073709551615 - v / 2
def narrowN (k v : Int) : Int := if k = 5 ∨ k = 14 then sx32 v else if k = 13 then v % 4294967296 else if k = 3 ∨ k = 4 then v else if k = 8 then (if v = 0 then 0 else 1) else if k = 17 then unz (v % 4294967296) else if k = 18 then unz v else 0
theorem wrap_sx (v : Int) (h0 : 0 ≤ v) (h1 : v < 18446744073709551616) : IntKind.u64.wrap (wrap64 (wrap32 v)) = sx32 v := by
  unfold sx32
  simp only [IntKind.wrap_u64, wrap64, wrap32]
  omega
theorem wrap_eq (v : Int) (h0 : 0 ≤ v) (h1 : v < 18446744073709551616) : (wrap64 v == wrap64 (wrap32 v)) = decide (sx32 v = v) := by
  unfold sx32
  simp only [wrap64, wrap32]
  rw [Bool.eq_iff_iff, beq_iff_eq, decide_eq_true_eq]
  omega
theorem sort_cases (k : Int) : sortN k = 0 ∨ sortN k = 1 ∨ sortN k = 2 ∨ sortN k = 3 ∨ sortN k = 4 ∨ sortN k = 5 ∨ sortN k = 6 ∨ sortN k = 7 := by
  by_cases h1 : k = 1
  · subst h1; decide
  by_cases h2 : k = 2
  · subst h2; decide
  by_cases h3 : k = 3
  · subst h3; decide
  by_cases h4 : k = 4
  · subst h4; decide
  by_cases h5 : k = 5
  · subst h5; decide
  by_cases h6 : k = 6
  · subst h6; decide
  by_cases h7 : k = 7
  · subst h7; decide
  by_cases h8 : k = 8
  · subst h8; decide
  by_cases h13 : k = 13
  · subst h13; decide
  by_cases h14 : k = 14
  · subst h14; decide
  by_cases h15 : k = 15
  · subst h15; decide
  by_cases h16 : k = 16
  · subst h16; decide
  by_cases h17 : k = 17
  · subst h17; decide
  by_cases h18 : k = 18
  · subst h18; decide
  have hs : sortN k = 0 := by unfold sortN; simp only [if_neg h1, if_neg h2, if_neg h3, if_neg h4, if_neg h5, if_neg h6, if_neg h7, if_neg h8, if_neg h13, if_neg h14, if_neg h15, if_neg h16, if_neg h17, if_neg h18]
  exact Or.inl hs
theorem ret_b {a b : Bool} (h : a = b) : Ending.returned (.bool a) = .returned (.bool b) := by rw [h]
theorem fits_any (k b : Int) (w : World) (h0 : 0 ≤ b) (h1 : b < 18446744073709551616) : Calls Tryz.prog 16 #[.int .u8 k, .int .u64 b] w fun e w' => e = .returned (.bool (fitsN k b)) ∧ w' = w := by
  obtain ⟨s, hs⟩ : ∃ s, sortN k = s := ⟨_, rfl⟩
  have hc := sort_cases k
  unfold fitsN
  have HS := fun w => sort_any k w
  rw [hs] at hc HS ⊢
  have H := Lib.hid HS
  clear HS hs
  rcases hc with rfl | rfl | rfl | rfl | rfl | rfl | rfl | rfl
  · go_enter Tryz.func16, Tryz.ntmps16
    go_wp2_with fail
    refine (H.out _).mono ?_
    rintro e w' ⟨rfl, hw⟩
    subst hw
    go_wp2_with fail
    go_ret
    exact ⟨ret_b (by simp), rfl⟩
  · go_enter Tryz.func16, Tryz.ntmps16
    go_wp2_with fail
    refine (H.out _).mono ?_
    rintro e w' ⟨rfl, hw⟩
    subst hw
    go_wp2_with fail
    go_ret
    exact ⟨ret_b (by simp), rfl⟩
  · go_enter Tryz.func16, Tryz.ntmps16
    go_wp2_with fail
    refine (H.out _).mono ?_
    rintro e w' ⟨rfl, hw⟩
    subst hw
    go_wp2_with fail
    go_ret
    exact ⟨ret_b ((wrap_eq b h0 h1).trans (by simp)), rfl⟩
  · go_enter Tryz.func16, Tryz.ntmps16
    go_wp2_with fail
    refine (H.out _).mono ?_
    rintro e w' ⟨rfl, hw⟩
    subst hw
    go_wp2_with fail
    go_ret
    exact ⟨ret_b (by simp), rfl⟩
  · go_enter Tryz.func16, Tryz.ntmps16
    go_wp2_with fail
    refine (H.out _).mono ?_
    rintro e w' ⟨rfl, hw⟩
    subst hw
    go_wp2_with fail
    go_ret
    exact ⟨ret_b (by simp), rfl⟩
  · go_enter Tryz.func16, Tryz.ntmps16
    go_wp2_with fail
    refine (H.out _).mono ?_
    rintro e w' ⟨rfl, hw⟩
    subst hw
    go_wp2_with fail
    go_ret
    exact ⟨ret_b (by simp), rfl⟩
  · go_enter Tryz.func16, Tryz.ntmps16
    go_wp2_with fail
    refine (H.out _).mono ?_
    rintro e w' ⟨rfl, hw⟩
    subst hw
    go_wp2_with fail
    go_ret
    exact ⟨ret_b (by simp), rfl⟩
  · go_enter Tryz.func16, Tryz.ntmps16
    go_wp2_with fail
    refine (H.out _).mono ?_
    rintro e w' ⟨rfl, hw⟩
    subst hw
    go_wp2_with fail
    go_ret
    exact ⟨ret_b (by simp), rfl⟩
theorem i64_xm1 (x : Int) (h0 : 0 ≤ x) (h1 : x < 9223372036854775808) : bits .xor .i64 x (-1) = -1 - x := by
  obtain ⟨a, rfl⟩ : ∃ a : Nat, x = a := ⟨x.toNat, by omega⟩
  have := i64_not a (by omega)
  show IntKind.i64.wrap ((BitVec.ofInt 64 (a : Int) ^^^ BitVec.ofInt 64 (-1)).toNat : Int) = _
  rw [BitVec.xor_comm]
  exact this
theorem i64_x0 (x : Int) (h0 : 0 ≤ x) (h1 : x < 9223372036854775808) : bits .xor .i64 x 0 = x := by
  show IntKind.i64.wrap ((BitVec.ofInt 64 x ^^^ BitVec.ofInt 64 0).toNat : Int) = _
  have h2 : BitVec.ofInt 64 0 = 0#64 := by decide
  rw [h2, BitVec.xor_zero, BitVec.toNat_ofInt, IntKind.wrap_i64]
  omega
theorem unzig_any (v : Int) (w : World) (h0 : 0 ≤ v) (h1 : v < 18446744073709551616) : Calls Tryz.prog 37 #[.int .u64 v] w fun e w' => e = .returned (.int .i64 (if v % 2 = 0 then v / 2 else -1 - v / 2)) ∧ w' = w := by
  have ha := u64_and1 v h0 h1
  rcases (show v % 2 = 0 ∨ v % 2 = 1 by omega) with h | h
  · rw [h] at ha
    rw [if_pos h]
    have e1 : wrap64 0 = 0 := by decide +kernel
    have e2 : bits .xor .i64 (v / 2) 0 = v / 2 := i64_x0 _ (by omega) (by omega)
    go_enter Tryz.func37, Tryz.ntmps37
    go_wp2_with fail
    go_ret
    exact ⟨rfl, rfl⟩
  · rw [h] at ha
    rw [if_neg (by omega)]
    have e1 : wrap64 1 = 1 := by decide +kernel
    have e1' : wrap64 (-1) = -1 := by decide +kernel
    have e2 : bits .xor .i64 (v / 2) (-1) = -1 - v / 2 := i64_xm1 _ (by omega) (by omega)
    go_enter Tryz.func37, Tryz.ntmps37
    go_wp2_with fail
    go_ret
    exact ⟨rfl, rfl⟩
theorem wrap_unz (v : Int) (h0 : 0 ≤ v) (h1 : v < 18446744073709551616) : IntKind.u64.wrap (if v % 2 = 0 then v / 2 else -1 - v / 2) = unz v := by
  unfold unz
  rw [IntKind.wrap_u64]
  split <;> omega
theorem narrow_any (k v : Int) (w : World) (h0 : 0 ≤ v) (h1 : v < 18446744073709551616) : Calls Tryz.prog 17 #[.int .u8 k, .int .u64 v] w fun e w' => e = .returned (.int .u64 (narrowN k v)) ∧ w' = w := by
  by_cases h3 : k = 3
  · subst h3
    go_enter Tryz.func17, Tryz.ntmps17
    go_wp2_with fail
    go_ret
    exact ⟨ret_i (by unfold narrowN; simp), rfl⟩
  by_cases h4 : k = 4
  · subst h4
    go_enter Tryz.func17, Tryz.ntmps17
    go_wp2_with fail
    go_ret
    exact ⟨ret_i (by unfold narrowN; simp), rfl⟩
  by_cases h5 : k = 5
  · subst h5
    go_enter Tryz.func17, Tryz.ntmps17
    go_wp2_with fail
    go_ret
    exact ⟨ret_i ((wrap_sx v h0 h1).trans (by unfold narrowN; simp)), rfl⟩
  by_cases h14 : k = 14
  · subst h14
    go_enter Tryz.func17, Tryz.ntmps17
    go_wp2_with fail
    go_ret
    exact ⟨ret_i ((wrap_sx v h0 h1).trans (by unfold narrowN; simp)), rfl⟩
  by_cases h13 : k = 13
  · subst h13
    go_enter Tryz.func17, Tryz.ntmps17
    go_wp2_with fail
    go_ret
    exact ⟨ret_i ((and_low32 v h0 h1).trans (by unfold narrowN; simp)), rfl⟩
  by_cases h8 : k = 8
  · subst h8
    by_cases hv : v = 0
    · subst hv
      go_enter Tryz.func17, Tryz.ntmps17
      go_wp2_with fail
      go_ret
      exact ⟨rfl, rfl⟩
    · have hb : (v != 0) = true := by rw [bne_iff_ne]; exact hv
      have hn : narrowN 8 v = 1 := by unfold narrowN; simp [hv]
      rw [hn]
      clear hv hn
      go_enter Tryz.func17, Tryz.ntmps17
      go_wp2_with fail
      go_ret
      exact ⟨rfl, rfl⟩
  by_cases h17 : k = 17
  · subst h17
    have ha := and_low32 v h0 h1
    have hn : narrowN 17 v = unz (v % 4294967296) := by unfold narrowN; simp
    have hu := wrap_unz (v % 4294967296) (by omega) (by omega)
    have hcall := fun w => unzig_any (v % 4294967296) w (by omega) (by omega)
    obtain ⟨z, hz⟩ : ∃ z, (if (v % 4294967296) % 2 = 0 then (v % 4294967296) / 2 else -1 - (v % 4294967296) / 2) = z := ⟨_, rfl⟩
    rw [hz] at hu
    simp only [hz] at hcall
    rw [hn, ← hu]
    have HC := Lib.hid hcall
    clear hn hu hz hcall
    go_enter Tryz.func17, Tryz.ntmps17
    go_wp2_with fail
    refine (HC.out _).mono ?_
    rintro e w' ⟨rfl, hw⟩
    subst hw
    go_wp2_with fail
    go_ret
    exact ⟨rfl, rfl⟩
  by_cases h18 : k = 18
  · subst h18
    have hn : narrowN 18 v = unz v := by unfold narrowN; simp
    have hu := wrap_unz v (by omega) (by omega)
    have hcall := fun w => unzig_any v w (by omega) (by omega)
    obtain ⟨z, hz⟩ : ∃ z, (if v % 2 = 0 then v / 2 else -1 - v / 2) = z := ⟨_, rfl⟩
    rw [hz] at hu
    simp only [hz] at hcall
    rw [hn, ← hu]
    have HC := Lib.hid hcall
    clear hn hu hz hcall
    go_enter Tryz.func17, Tryz.ntmps17
    go_wp2_with fail
    refine (HC.out _).mono ?_
    rintro e w' ⟨rfl, hw⟩
    subst hw
    go_wp2_with fail
    go_ret
    exact ⟨rfl, rfl⟩
  have hs : narrowN k v = 0 := by unfold narrowN; simp [h3, h4, h5, h8, h13, h14, h17, h18]
  rw [hs]
  have b3 : (k == 3) = false := by rw [beq_eq_false_iff_ne]; exact h3
  have b4 : (k == 4) = false := by rw [beq_eq_false_iff_ne]; exact h4
  have b5 : (k == 5) = false := by rw [beq_eq_false_iff_ne]; exact h5
  have b8 : (k == 8) = false := by rw [beq_eq_false_iff_ne]; exact h8
  have b13 : (k == 13) = false := by rw [beq_eq_false_iff_ne]; exact h13
  have b14 : (k == 14) = false := by rw [beq_eq_false_iff_ne]; exact h14
  have b17 : (k == 17) = false := by rw [beq_eq_false_iff_ne]; exact h17
  have b18 : (k == 18) = false := by rw [beq_eq_false_iff_ne]; exact h18
  clear hs h3 h4 h5 h8 h13 h14 h17 h18
  go_enter Tryz.func17, Tryz.ntmps17
  go_wp2_with fail
  go_ret
  exact ⟨rfl, rfl⟩
end Go.Proofs.YtdfodfflkmcgpaaGreatDoor
