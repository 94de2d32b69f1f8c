/- digits, and the small functions of nums at the literals of works(). -/
import Derived.Test.YtdfodfflkmcgpaaGreatDoorC1
namespace Go.Proofs.YtdfodfflkmcgpaaGreatDoor
open Go.RowKit Go.Sort
set_option linter.unusedVariables false
set_option maxRecDepth 100000
def digitB (b : UInt8) : Bool := decide (48 ≤ b.toNat) && decide (b.toNat ≤ 57)
/-- how many digits stand at the front. -/
def digitsN (l : List UInt8) : Nat := (l.takeWhile digitB).length
theorem takeWhile_at (p : UInt8 → Bool) (l : List UInt8) (k : Nat) (hk : k ≤ (l.takeWhile p).length) (h : ∀ (h : k < l.length), p l[k] = false) : (l.takeWhile p).length = k := by
  induction l generalizing k with
  | nil => simp at hk ⊢; omega
  | cons a l ih =>
    cases k with
    | zero => 
      have := h (by simp)
      simp at this
      simp [List.takeWhile, this]
    | succ k =>
      cases ha : p a with
      | false => simp [List.takeWhile, ha] at hk
      | true =>
        simp only [List.takeWhile, ha, List.length_cons] at hk ⊢
        rw [ih k (by omega) (fun h' => by have := h (by simp; omega); simpa using this)]
theorem takeWhile_more (p : UInt8 → Bool) (l : List UInt8) (k : Nat) (hk : k ≤ (l.takeWhile p).length) (h : k < l.length) (hp : p l[k] = true) : k + 1 ≤ (l.takeWhile p).length := by
  induction l generalizing k with
  | nil => simp at h
  | cons a l ih =>
    cases k with
    | zero => 
      simp at hp
      simp [List.takeWhile, hp]
    | succ k =>
      cases ha : p a with
      | false => simp [List.takeWhile, ha] at hk
      | true =>
        simp only [List.takeWhile, ha, List.length_cons] at hk ⊢
        have := ih k (by omega) (by simp at h; omega) (by simpa using hp)
        omega
theorem byte_at (s : ByteArray) (k : Nat) (h : k < s.size) (h' : k < s.data.toList.length) : s.data.toList[k] = s[k] := rfl
theorem digits_any (s : ByteArray) (w : World) (hs : s.size ≤ 9223372036854775806) :
    Calls Tryz.prog 61 #[.string s] w fun e w' => e = .returned (.int .i64 (digitsN s.data.toList : Nat)) ∧ w' = w := by
  go_enter Tryz.func61, Tryz.ntmps61
  go_wp2_with fail
  go_loop [3] (fun s3 => ∃ k : Nat, k ≤ s.size ∧ k ≤ digitsN s.data.toList ∧ s3 = .int .i64 k) (fun s3 => s.size - (intOf s3).toNat)
  case atStart => exact ⟨0, Nat.zero_le _, Nat.zero_le _, rfl⟩
  case round =>
    obtain ⟨k, hk, hk2, rfl⟩ := hrel
    rcases Nat.lt_or_ge k s.size with hlt | hge
    · by_cases h48 : 48 ≤ s[k].toNat
      · by_cases h57 : s[k].toNat ≤ 57
        · go_wp2
          go_round
          case rel => exact ⟨k + 1, hlt, takeWhile_more digitB _ k hk2 (by simpa using hlt) (by rw [byte_at s k hlt]; simp [digitB, h48, h57]), rfl⟩
          case measure => simp [intOf]; omega
        · go_wp2
          go_ret
          have : digitsN s.data.toList = k := takeWhile_at digitB _ k hk2 (fun h' => by rw [byte_at s k hlt]; simp [digitB, h57])
          exact ⟨by rw [this]; rfl, rfl⟩
      · go_wp2
        go_ret
        have : digitsN s.data.toList = k := takeWhile_at digitB _ k hk2 (fun h' => by rw [byte_at s k hlt]; simp [digitB, h48])
        exact ⟨by rw [this]; rfl, rfl⟩
    · go_wp2
      go_ret
      have : digitsN s.data.toList = k := takeWhile_at digitB _ k hk2 (fun h' => absurd h' (by simp; omega))
      exact ⟨by rw [this]; rfl, rfl⟩
theorem digits_lit (s : ByteArray) (n : Nat) (w : World) (hs : s.size ≤ 1000) (h : digitsN s.data.toList = n) :
    Calls Tryz.prog 61 #[.string s] w fun e w' => e = .returned (.int .i64 (n : Int)) ∧ w' = w := h ▸ digits_any s w (by omega)

theorem sort_1 (w : World) : Calls Tryz.prog 36 #[.int .u8 1] w fun e w' => e = .returned (.int .i64 7) ∧ w' = w := by
  go_enter Tryz.func36, Tryz.ntmps36
  go_wp2_with fail
  go_ret
  exact ⟨rfl, rfl⟩
theorem sort_2 (w : World) : Calls Tryz.prog 36 #[.int .u8 2] w fun e w' => e = .returned (.int .i64 6) ∧ w' = w := by
  go_enter Tryz.func36, Tryz.ntmps36
  go_wp2_with fail
  go_ret
  exact ⟨rfl, rfl⟩
theorem sort_5 (w : World) : Calls Tryz.prog 36 #[.int .u8 5] w fun e w' => e = .returned (.int .i64 2) ∧ w' = w := by
  go_enter Tryz.func36, Tryz.ntmps36
  go_wp2_with fail
  go_ret
  exact ⟨rfl, rfl⟩
theorem sort_8 (w : World) : Calls Tryz.prog 36 #[.int .u8 8] w fun e w' => e = .returned (.int .i64 1) ∧ w' = w := by
  go_enter Tryz.func36, Tryz.ntmps36
  go_wp2_with fail
  go_ret
  exact ⟨rfl, rfl⟩
theorem fits_1 (b : Int) (w : World) : Calls Tryz.prog 16 #[.int .u8 1, .int .u64 b] w fun e w' => e = .returned (.bool true) ∧ w' = w := by
  have HS := sort_1
  go_enter Tryz.func16, Tryz.ntmps16
  go_wp2_with fail
  refine (sort_1 _).mono ?_
  rintro e w' ⟨rfl, hw⟩
  subst hw
  go_wp2_with fail
  go_ret
  exact ⟨rfl, rfl⟩
theorem fits_2 (w : World) : Calls Tryz.prog 16 #[.int .u8 2, .int .u64 1036831949] w fun e w' => e = .returned (.bool true) ∧ w' = w := by
  go_enter Tryz.func16, Tryz.ntmps16
  go_wp2_with fail
  refine (sort_2 _).mono ?_
  rintro e w' ⟨rfl, hw⟩
  subst hw
  go_wp2_with fail
  go_ret
  exact ⟨rfl, rfl⟩
theorem fits_8 (w : World) : Calls Tryz.prog 16 #[.int .u8 8, .int .u64 1] w fun e w' => e = .returned (.bool true) ∧ w' = w := by
  go_enter Tryz.func16, Tryz.ntmps16
  go_wp2_with fail
  refine (sort_8 _).mono ?_
  rintro e w' ⟨rfl, hw⟩
  subst hw
  go_wp2_with fail
  go_ret
  exact ⟨rfl, rfl⟩
theorem fits_5a (w : World) : Calls Tryz.prog 16 #[.int .u8 5, .int .u64 2147483648] w fun e w' => e = .returned (.bool false) ∧ w' = w := by
  go_enter Tryz.func16, Tryz.ntmps16
  go_wp2_with fail
  refine (sort_5 _).mono ?_
  rintro e w' ⟨rfl, hw⟩
  subst hw
  go_wp2_with fail
  go_ret
  exact ⟨congrArg (fun b => Ending.returned (.bool b)) (by decide +kernel), rfl⟩
theorem fits_5b (w : World) : Calls Tryz.prog 16 #[.int .u8 5, .int .u64 25] w fun e w' => e = .returned (.bool true) ∧ w' = w := by
  go_enter Tryz.func16, Tryz.ntmps16
  go_wp2_with fail
  refine (sort_5 _).mono ?_
  rintro e w' ⟨rfl, hw⟩
  subst hw
  go_wp2_with fail
  go_ret
  exact ⟨congrArg (fun b => Ending.returned (.bool b)) (by decide +kernel), rfl⟩
theorem run_41 (b : Nat) (w : World) : (callFunc 41 #[.int .u32 b]).run Tryz.prog w = .ok (.value (.float .f32 b)) w := by kernel_rfl
theorem run_42 (b : Nat) (w : World) : (callFunc 42 #[.int .u64 b]).run Tryz.prog w = .ok (.value (.float .f64 b)) w := by kernel_rfl
theorem show_a {B : Nat} (w : World) (hG : Good B w) (hB : B ≤ w.heap.size) :
    Calls Tryz.prog 18 #[.int .u8 1, .int .u64 4591870180066957722] w fun e w' => e = .returned (.string ⟨#[48, 46, 49]⟩) ∧ Below B w w' := by
  have h42 : ∀ w, (callFunc 42 #[.int .u64 4591870180066957722]).run Tryz.prog w = .ok (.value (.float .f64 4591870180066957722)) w := run_42 4591870180066957722
  go_enter Tryz.func18, Tryz.ntmps18
  go_wp2_with fail
  refine (fits_1 _ _).mono ?_
  rintro e w' ⟨rfl, hw⟩
  subst hw
  go_wp2_with fail
  refine (sort_1 _).mono ?_
  rintro e w' ⟨rfl, hw⟩
  subst hw
  go_wp2_with fail
  refine (floating_a _ hG hB).mono ?_
  rintro e w' ⟨rfl, hw⟩
  go_wp2_with fail
  go_ret
  exact ⟨rfl, hw⟩
theorem show_c {B : Nat} (w : World) (hG : Good B w) (hB : B ≤ w.heap.size) :
    Calls Tryz.prog 18 #[.int .u8 1, .int .u64 1] w fun e w' => e = .returned (.string ⟨#[53, 101, 45, 51, 50, 52]⟩) ∧ Below B w w' := by
  have h42 : ∀ w, (callFunc 42 #[.int .u64 1]).run Tryz.prog w = .ok (.value (.float .f64 1)) w := run_42 1
  go_enter Tryz.func18, Tryz.ntmps18
  go_wp2_with fail
  refine (fits_1 _ _).mono ?_
  rintro e w' ⟨rfl, hw⟩
  subst hw
  go_wp2_with fail
  refine (sort_1 _).mono ?_
  rintro e w' ⟨rfl, hw⟩
  subst hw
  go_wp2_with fail
  refine (floating_c _ hG hB).mono ?_
  rintro e w' ⟨rfl, hw⟩
  go_wp2_with fail
  go_ret
  exact ⟨rfl, hw⟩
theorem show_b {B : Nat} (w : World) (hG : Good B w) (hB : B ≤ w.heap.size) :
    Calls Tryz.prog 18 #[.int .u8 2, .int .u64 1036831949] w fun e w' => e = .returned (.string ⟨#[48, 46, 49]⟩) ∧ Below B w w' := by
  have h41 : ∀ w, (callFunc 41 #[.int .u32 1036831949]).run Tryz.prog w = .ok (.value (.float .f32 1036831949)) w := run_41 1036831949
  have hcv := conv_b
  go_enter Tryz.func18, Tryz.ntmps18
  go_wp2_with fail
  refine (fits_2 _).mono ?_
  rintro e w' ⟨rfl, hw⟩
  subst hw
  go_wp2_with fail
  refine (sort_2 _).mono ?_
  rintro e w' ⟨rfl, hw⟩
  subst hw
  go_wp2_with fail
  refine (floating_b _ hG hB).mono ?_
  rintro e w' ⟨rfl, hw⟩
  go_wp2_with fail
  go_ret
  exact ⟨rfl, hw⟩
theorem num_j (w : World) :
    Calls Tryz.prog 31 #[.string ⟨#[45, 49, 46, 53, 101, 43]⟩] w fun e w' => e = .returned (.int .i64 4) ∧ w' = w := by
  go_enter Tryz.func31, Tryz.ntmps31
  go_wp2_with fail
  refine (Tryz.strings_HasPrefix _ _ _).mono ?_
  rintro e w' ⟨rfl, hw⟩
  subst hw
  rw [show Lib.hasPrefix (ByteArray.mk #[45, 49, 46, 53, 101, 43]).data.toList (ByteArray.mk #[45]).data.toList = true by decide +kernel]
  go_wp2_with fail
  refine (digits_lit _ 1 _ (by decide) (by decide +kernel)).mono ?_
  rintro e w' ⟨rfl, hw⟩
  subst hw
  go_wp2_with fail
  refine (digits_lit _ 1 _ (by decide) (by decide +kernel)).mono ?_
  rintro e w' ⟨rfl, hw⟩
  subst hw
  go_wp2_with fail
  refine (digits_lit _ 0 _ (by decide) (by decide +kernel)).mono ?_
  rintro e w' ⟨rfl, hw⟩
  subst hw
  go_wp2_with fail
  go_ret
  exact ⟨rfl, rfl⟩
theorem unzig_k (w : World) : Calls Tryz.prog 37 #[.int .u64 4294967295] w fun e w' => e = .returned (.int .i64 (-2147483648)) ∧ w' = w := by
  have e1 : bits .and .u64 4294967295 1 = 1 := by decide +kernel
  have e2 : bits .xor .i64 2147483647 (-1) = -2147483648 := by decide +kernel
  go_enter Tryz.func37, Tryz.ntmps37
  go_wp2_with fail
  go_ret
  exact ⟨rfl, rfl⟩
theorem narrow_k (w : World) : Calls Tryz.prog 17 #[.int .u8 17, .int .u64 4294967295] w fun e w' => e = .returned (.int .u64 18446744071562067968) ∧ w' = w := by
  go_enter Tryz.func17, Tryz.ntmps17
  go_wp2_with fail
  refine (unzig_k _).mono ?_
  rintro e w' ⟨rfl, hw⟩
  subst hw
  go_wp2_with fail
  go_ret
  exact ⟨congrArg (fun n => Ending.returned (.int .u64 n)) (by decide +kernel), rfl⟩
theorem widen_l (w : World) : Calls Tryz.prog 23 #[.int .u32 1036831949] w fun e w' => e = .returned (.int .u64 4591870180174331904) ∧ w' = w := by
  have h41 : ∀ w, (callFunc 41 #[.int .u32 1036831949]).run Tryz.prog w = .ok (.value (.float .f32 1036831949)) w := run_41 1036831949
  have h55 : ∀ w, (callFunc 55 #[.float .f64 4591870180174331904]).run Tryz.prog w = .ok (.value (.int .u64 4591870180174331904)) w := fun w => by kernel_rfl
  have hcv := conv_b
  go_enter Tryz.func23, Tryz.ntmps23
  go_wp2_with fail
  go_ret
  exact ⟨rfl, rfl⟩
theorem cut_m (w : World) : Calls Tryz.prog 24 #[.int .u64 4591870180174331904] w fun e w' => e = .returned (.int .u32 1036831949) ∧ w' = w := by
  have h42 : ∀ w, (callFunc 42 #[.int .u64 4591870180174331904]).run Tryz.prog w = .ok (.value (.float .f64 4591870180174331904)) w := run_42 4591870180174331904
  have h56 : ∀ w, (callFunc 56 #[.float .f32 1036831949]).run Tryz.prog w = .ok (.value (.int .u32 1036831949)) w := fun w => by kernel_rfl
  have hcv := conv_b'
  go_enter Tryz.func24, Tryz.ntmps24
  go_wp2_with fail
  go_ret
  exact ⟨rfl, rfl⟩
theorem order_o (w : World) : Calls Tryz.prog 52 #[.int .i64 (-1), .int .i64 0] w fun e w' => e = .returned (.int .i64 (-1)) ∧ w' = w := by
  go_enter Tryz.func52, Tryz.ntmps52
  go_wp2_with fail
  go_ret
  exact ⟨rfl, rfl⟩
theorem compare_o (w : World) : Calls Tryz.prog 22 #[.int .u8 5, .int .u64 18446744073709551615, .int .u64 0] w fun e w' => e = .returned (.int .i64 (-1)) ∧ w' = w := by
  go_enter Tryz.func22, Tryz.ntmps22
  go_wp2_with fail
  refine (sort_5 _).mono ?_
  rintro e w' ⟨rfl, hw⟩
  subst hw
  have hw1 : wrap64 18446744073709551615 = -1 := by decide +kernel
  have hw0 : wrap64 0 = 0 := by decide +kernel
  go_wp2_with fail
  refine (order_o _).mono ?_
  rintro e w' ⟨rfl, hw⟩
  subst hw
  go_wp2_with fail
  go_ret
  exact ⟨rfl, rfl⟩
end Go.Proofs.YtdfodfflkmcgpaaGreatDoor
