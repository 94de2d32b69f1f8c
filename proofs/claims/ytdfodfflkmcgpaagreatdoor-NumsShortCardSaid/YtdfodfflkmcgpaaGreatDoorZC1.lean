/- The three numbers that works() shows. -/
import Derived.Test.YtdfodfflkmcgpaaGreatDoorZB
namespace Go.Proofs.YtdfodfflkmcgpaaGreatDoor
open Go.RowKit Go.Sort
set_option linter.unusedVariables false
set_option maxRecDepth 100000

theorem floating_a {B : Nat} (w : World) (hG : Good B w) (hB : B ≤ w.heap.size) :
    Calls Tryz.prog 40 #[.float .f64 4591870180066957722, .int .i64 64] w fun e w' => e = .returned (.string ⟨#[48, 46, 49]⟩) ∧ Below B w w' := by
  refine floating_fin 4591870180066957722 64 w hG hB (strOfNums [49, 101, 45, 48, 49]) (strOfNums [49, 101, 45, 48, 49]) (by decide +kernel) (by decide +kernel) false (by decide +kernel) (by decide +kernel) (by decide +kernel) (by decide +kernel)
    (Lib.hid fun W hGW hBW => format_public _ _ _ _ (format64_any _ W hGW hBW [49, 101, 45, 48, 49] (by decide) fun v W' hG' hO => ?_))
    (by decide +kernel) (Lib.hid rfl) [49] [45, 48, 49] (-1) (Lib.hid (by decide +kernel)) (Lib.hid (by decide +kernel)) (Lib.hid (by decide +kernel)) (Lib.hid (by decide +kernel)) (by decide) (by decide) [49] (Lib.hid (by decide +kernel)) (Lib.hid (by decide +kernel))
  rw [← (show signOf false ++ textE 1000000000000000 (-16) = [49, 101, 45, 48, 49] by decide +kernel)]
  exact ftoa64_nor 4591870180066957722 7205759403792794 false v 0 [] W' hG' hO (by decide) 1019 2702159776422298 (-56) (by decide) (by decide +kernel) (by decide +kernel) (by decide +kernel) (by decide +kernel) (by decide +kernel) (by decide) (by decide) (Lib.hid (by decide))
    (by decide) (by decide) false (Lib.hid (by decide)) (by decide) (by decide) (fun h => absurd h (by decide)) 1000000000000000 (-16) (Lib.hid (by decide +kernel)) (by decide) (by decide) (by decide) (by decide)

theorem floating_c {B : Nat} (w : World) (hG : Good B w) (hB : B ≤ w.heap.size) :
    Calls Tryz.prog 40 #[.float .f64 1, .int .i64 64] w fun e w' => e = .returned (.string ⟨#[53, 101, 45, 51, 50, 52]⟩) ∧ Below B w w' := by
  have hl : (if false = true then [45] else []) ++ laidL [53] (-324) = [53, 101, 45, 51, 50, 52] := by decide +kernel
  suffices h : Calls Tryz.prog 40 #[.float .f64 1, .int .i64 64] w fun e w' => e = .returned (.string ⟨((if false = true then [45] else []) ++ laidL [53] (-324)).toArray⟩) ∧ Below B w w' by
    rw [hl] at h; exact h
  refine floating_fin 1 64 w hG hB (strOfNums [53, 101, 45, 51, 50, 52]) (strOfNums [53, 101, 45, 51, 50, 52]) (by decide +kernel) (by decide +kernel) false (by decide +kernel) (by decide +kernel) (by decide +kernel) (by decide +kernel)
    (Lib.hid fun W hGW hBW => format_public _ _ _ _ (format64_any _ W hGW hBW [53, 101, 45, 51, 50, 52] (by decide) fun v W' hG' hO => ?_))
    (by decide +kernel) (Lib.hid rfl) [53] [45, 51, 50, 52] (-324) (Lib.hid (by decide +kernel)) (Lib.hid (by decide +kernel)) (Lib.hid (by decide +kernel)) (Lib.hid (by decide +kernel)) (by decide) (by decide) [53] (Lib.hid (by decide +kernel)) (Lib.hid (by decide +kernel))
  rw [← (show signOf false ++ textE 5 (-324) = [53, 101, 45, 51, 50, 52] by decide +kernel)]
  exact ftoa64_sub 1 1 false v 0 [] W' hG' hO (by decide) 1 (-1074) (by decide) (by decide +kernel) (by decide +kernel) (by decide +kernel) (by decide +kernel) trivial (Lib.hid rfl)
    (by decide) (by decide) false (Lib.hid (by decide)) (by decide) (by decide) (fun _ => rfl) 5 (-324) (Lib.hid (by decide +kernel)) (by decide) (by decide) (by decide) (by decide)

theorem conv_b (w : World) : (convert 60 59 (.float .f32 1036831949)).run Tryz.prog w = .ok (.float .f64 4591870180174331904) w := by kernel_rfl
theorem conv_b' (w : World) : (convert 59 60 (.float .f64 4591870180174331904)).run Tryz.prog w = .ok (.float .f32 1036831949) w := by kernel_rfl

theorem floating_b {B : Nat} (w : World) (hG : Good B w) (hB : B ≤ w.heap.size) :
    Calls Tryz.prog 40 #[.float .f64 4591870180174331904, .int .i64 32] w fun e w' => e = .returned (.string ⟨#[48, 46, 49]⟩) ∧ Below B w w' := by
  refine floating_fin 4591870180174331904 32 w hG hB (strOfNums [49, 101, 45, 48, 49]) (strOfNums [49, 101, 45, 48, 49]) (by decide +kernel) (by decide +kernel) false (by decide +kernel) (by decide +kernel) (by decide +kernel) (by decide +kernel)
    (Lib.hid fun W hGW hBW => format_public _ _ _ _ (format32_any 1036831949 _ W hGW hBW [49, 101, 45, 48, 49] (by decide) conv_b' fun v W' hG' hO => ?_))
    (by decide +kernel) (Lib.hid rfl) [49] [45, 48, 49] (-1) (Lib.hid (by decide +kernel)) (Lib.hid (by decide +kernel)) (Lib.hid (by decide +kernel)) (Lib.hid (by decide +kernel)) (by decide) (by decide) [49] (Lib.hid (by decide +kernel)) (Lib.hid (by decide +kernel))
  rw [← (show signOf false ++ textE 10000000 (-8) = [49, 101, 45, 48, 49] by decide +kernel)]
  exact ftoa32_nor 1036831949 13421773 false v 0 [] W' hG' hO (by decide) 123 5033165 (-27) (by decide) (by decide +kernel) (by decide +kernel) (by decide +kernel) (by decide +kernel) (by decide +kernel) (by decide) (by decide) (Lib.hid (by decide))
    (by decide) (by decide) false (Lib.hid (by decide)) (by decide) (by decide) (fun h => absurd h (by decide)) 10000000 (-8) (Lib.hid (by decide +kernel)) (by decide) (by decide) (by decide) (by decide)
end Go.Proofs.YtdfodfflkmcgpaaGreatDoor
/- digits, and the small functions of nums at the literals of works(). -/
namespace Go.Proofs.YtdfodfflkmcgpaaGreatDoor
open Go.RowKit Go.Sort
set_option linter.unusedVariables false
set_option maxRecDepth 100000
def digitB (b : UInt8) : Bool := decide (48 ≤ b.toNat) && decide (b.toNat ≤ 57)
/-- how many digits stand at the front. -/
def digitsN (l : List UInt8) : Nat := (l.takeWhile digitB).length
theorem takeWhile_at (p : UInt8 → Bool) (l : List UInt8) (k : Nat) (hk : k ≤ (l.takeWhile p).length) (h : ∀ (h : k < l.length), p l[k] = false) : (l.takeWhile p).length = k := by
  induction l generalizing k with
  | nil => simp at hk ⊢; omega
  | cons a l ih =>
    cases k with
    | zero => 
      have := h (by simp)
      simp at this
      simp [List.takeWhile, this]
    | succ k =>
      cases ha : p a with
      | false => simp [List.takeWhile, ha] at hk
      | true =>
        simp only [List.takeWhile, ha, List.length_cons] at hk ⊢
        rw [ih k (by omega) (fun h' => by have := h (by simp; omega); simpa using this)]
theorem takeWhile_more (p : UInt8 → Bool) (l : List UInt8) (k : Nat) (hk : k ≤ (l.takeWhile p).length) (h : k < l.length) (hp : p l[k] = true) : k + 1 ≤ (l.takeWhile p).length := by
  induction l generalizing k with
  | nil => simp at h
  | cons a l ih =>
    cases k with
    | zero => 
      simp at hp
      simp [List.takeWhile, hp]
    | succ k =>
      cases ha : p a with
      | false => simp [List.takeWhile, ha] at hk
      | true =>
        simp only [List.takeWhile, ha, List.length_cons] at hk ⊢
        have := ih k (by omega) (by simp at h; omega) (by simpa using hp)
        omega
theorem byte_at (s : ByteArray) (k : Nat) (h : k < s.size) (h' : k < s.data.toList.length) : s.data.toList[k] = s[k] := rfl
theorem digits_any (s : ByteArray) (w : World) (hs : s.size ≤ 9223372036854775806) :
    Calls Tryz.prog 61 #[.string s] w fun e w' => e = .returned (.int .i64 (digitsN s.data.toList : Nat)) ∧ w' = w := by
  go_enter Tryz.func61, Tryz.ntmps61
  go_wp2_with fail
  go_loop [3] (fun s3 => ∃ k : Nat, k ≤ s.size ∧ k ≤ digitsN s.data.toList ∧ s3 = .int .i64 k) (fun s3 => s.size - (intOf s3).toNat)
  case atStart => exact ⟨0, Nat.zero_le _, Nat.zero_le _, rfl⟩
  case round =>
    obtain ⟨k, hk, hk2, rfl⟩ := hrel
    rcases Nat.lt_or_ge k s.size with hlt | hge
    · by_cases h48 : 48 ≤ s[k].toNat
      · by_cases h57 : s[k].toNat ≤ 57
        · go_wp2
          go_round
          case rel => exact ⟨k + 1, hlt, takeWhile_more digitB _ k hk2 (by simpa using hlt) (by rw [byte_at s k hlt]; simp [digitB, h48, h57]), rfl⟩
          case measure => simp [intOf]; omega
        · go_wp2
          go_ret
          have : digitsN s.data.toList = k := takeWhile_at digitB _ k hk2 (fun h' => by rw [byte_at s k hlt]; simp [digitB, h57])
          exact ⟨by rw [this]; rfl, rfl⟩
      · go_wp2
        go_ret
        have : digitsN s.data.toList = k := takeWhile_at digitB _ k hk2 (fun h' => by rw [byte_at s k hlt]; simp [digitB, h48])
        exact ⟨by rw [this]; rfl, rfl⟩
    · go_wp2
      go_ret
      have : digitsN s.data.toList = k := takeWhile_at digitB _ k hk2 (fun h' => absurd h' (by simp; omega))
      exact ⟨by rw [this]; rfl, rfl⟩
theorem digits_lit (s : ByteArray) (n : Nat) (w : World) (hs : s.size ≤ 1000) (h : digitsN s.data.toList = n) :
    Calls Tryz.prog 61 #[.string s] w fun e w' => e = .returned (.int .i64 (n : Int)) ∧ w' = w := h ▸ digits_any s w (by omega)

theorem sort_1 (w : World) : Calls Tryz.prog 36 #[.int .u8 1] w fun e w' => e = .returned (.int .i64 7) ∧ w' = w := by
  go_enter Tryz.func36, Tryz.ntmps36
  go_wp2_with fail
  go_ret
  exact ⟨rfl, rfl⟩
theorem sort_2 (w : World) : Calls Tryz.prog 36 #[.int .u8 2] w fun e w' => e = .returned (.int .i64 6) ∧ w' = w := by
  go_enter Tryz.func36, Tryz.ntmps36
  go_wp2_with fail
  go_ret
  exact ⟨rfl, rfl⟩
theorem sort_5 (w : World) : Calls Tryz.prog 36 #[.int .u8 5] w fun e w' => e = .returned (.int .i64 2) ∧ w' = w := by
  go_enter Tryz.func36, Tryz.ntmps36
  go_wp2_with fail
  go_ret
  exact ⟨rfl, rfl⟩
theorem sort_8 (w : World) : Calls Tryz.prog 36 #[.int .u8 8] w fun e w' => e = .returned (.int .i64 1) ∧ w' = w := by
  go_enter Tryz.func36, Tryz.ntmps36
  go_wp2_with fail
  go_ret
  exact ⟨rfl, rfl⟩
theorem fits_1 (b : Int) (w : World) : Calls Tryz.prog 16 #[.int .u8 1, .int .u64 b] w fun e w' => e = .returned (.bool true) ∧ w' = w := by
  have HS := sort_1
  go_enter Tryz.func16, Tryz.ntmps16
  go_wp2_with fail
  refine (sort_1 _).mono ?_
  rintro e w' ⟨rfl, hw⟩
  subst hw
  go_wp2_with fail
  go_ret
  exact ⟨rfl, rfl⟩
theorem fits_2 (w : World) : Calls Tryz.prog 16 #[.int .u8 2, .int .u64 1036831949] w fun e w' => e = .returned (.bool true) ∧ w' = w := by
  go_enter Tryz.func16, Tryz.ntmps16
  go_wp2_with fail
  refine (sort_2 _).mono ?_
  rintro e w' ⟨rfl, hw⟩
  subst hw
  go_wp2_with fail
  go_ret
  exact ⟨rfl, rfl⟩
theorem fits_8 (w : World) : Calls Tryz.prog 16 #[.int .u8 8, .int .u64 1] w fun e w' => e = .returned (.bool true) ∧ w' = w := by
  go_enter Tryz.func16, Tryz.ntmps16
  go_wp2_with fail
  refine (sort_8 _).mono ?_
  rintro e w' ⟨rfl, hw⟩
  subst hw
  go_wp2_with fail
  go_ret
  exact ⟨rfl, rfl⟩
theorem fits_5a (w : World) : Calls Tryz.prog 16 #[.int .u8 5, .int .u64 2147483648] w fun e w' => e = .returned (.bool false) ∧ w' = w := by
  go_enter Tryz.func16, Tryz.ntmps16
  go_wp2_with fail
  refine (sort_5 _).mono ?_
  rintro e w' ⟨rfl, hw⟩
  subst hw
  go_wp2_with fail
  go_ret
  exact ⟨congrArg (fun b => Ending.returned (.bool b)) (by decide +kernel), rfl⟩
theorem fits_5b (w : World) : Calls Tryz.prog 16 #[.int .u8 5, .int .u64 25] w fun e w' => e = .returned (.bool true) ∧ w' = w := by
  go_enter Tryz.func16, Tryz.ntmps16
  go_wp2_with fail
  refine (sort_5 _).mono ?_
  rintro e w' ⟨rfl, hw⟩
  subst hw
  go_wp2_with fail
  go_ret
  exact ⟨congrArg (fun b => Ending.returned (.bool b)) (by decide +kernel), rfl⟩
theorem run_41 (b : Nat) (w : World) : (callFunc 41 #[.int .u32 b]).run Tryz.prog w = .ok (.value (.float .f32 b)) w := by kernel_rfl
theorem run_42 (b : Nat) (w : World) : (callFunc 42 #[.int .u64 b]).run Tryz.prog w = .ok (.value (.float .f64 b)) w := by kernel_rfl
theorem show_a {B : Nat} (w : World) (hG : Good B w) (hB : B ≤ w.heap.size) :
    Calls Tryz.prog 18 #[.int .u8 1, .int .u64 4591870180066957722] w fun e w' => e = .returned (.string ⟨#[48, 46, 49]⟩) ∧ Below B w w' := by
  have h42 : ∀ w, (callFunc 42 #[.int .u64 4591870180066957722]).run Tryz.prog w = .ok (.value (.float .f64 4591870180066957722)) w := run_42 4591870180066957722
  go_enter Tryz.func18, Tryz.ntmps18
  go_wp2_with fail
  refine (fits_1 _ _).mono ?_
  rintro e w' ⟨rfl, hw⟩
  subst hw
  go_wp2_with fail
  refine (sort_1 _).mono ?_
  rintro e w' ⟨rfl, hw⟩
  subst hw
  go_wp2_with fail
  refine (floating_a _ hG hB).mono ?_
  rintro e w' ⟨rfl, hw⟩
  go_wp2_with fail
  go_ret
  exact ⟨rfl, hw⟩
theorem show_c {B : Nat} (w : World) (hG : Good B w) (hB : B ≤ w.heap.size) :
    Calls Tryz.prog 18 #[.int .u8 1, .int .u64 1] w fun e w' => e = .returned (.string ⟨#[53, 101, 45, 51, 50, 52]⟩) ∧ Below B w w' := by
  have h42 : ∀ w, (callFunc 42 #[.int .u64 1]).run Tryz.prog w = .ok (.value (.float .f64 1)) w := run_42 1
  go_enter Tryz.func18, Tryz.ntmps18
  go_wp2_with fail
  refine (fits_1 _ _).mono ?_
  rintro e w' ⟨rfl, hw⟩
  subst hw
  go_wp2_with fail
  refine (sort_1 _).mono ?_
  rintro e w' ⟨rfl, hw⟩
  subst hw
  go_wp2_with fail
  refine (floating_c _ hG hB).mono ?_
  rintro e w' ⟨rfl, hw⟩
  go_wp2_with fail
  go_ret
  exact ⟨rfl, hw⟩
theorem show_b {B : Nat} (w : World) (hG : Good B w) (hB : B ≤ w.heap.size) :
    Calls Tryz.prog 18 #[.int .u8 2, .int .u64 1036831949] w fun e w' => e = .returned (.string ⟨#[48, 46, 49]⟩) ∧ Below B w w' := by
  have h41 : ∀ w, (callFunc 41 #[.int .u32 1036831949]).run Tryz.prog w = .ok (.value (.float .f32 1036831949)) w := run_41 1036831949
  have hcv := conv_b
  go_enter Tryz.func18, Tryz.ntmps18
  go_wp2_with fail
  refine (fits_2 _).mono ?_
  rintro e w' ⟨rfl, hw⟩
  subst hw
  go_wp2_with fail
  refine (sort_2 _).mono ?_
  rintro e w' ⟨rfl, hw⟩
  subst hw
  go_wp2_with fail
  refine (floating_b _ hG hB).mono ?_
  rintro e w' ⟨rfl, hw⟩
  go_wp2_with fail
  go_ret
  exact ⟨rfl, hw⟩
theorem num_j (w : World) :
    Calls Tryz.prog 31 #[.string ⟨#[45, 49, 46, 53, 101, 43]⟩] w fun e w' => e = .returned (.int .i64 4) ∧ w' = w := by
  go_enter Tryz.func31, Tryz.ntmps31
  go_wp2_with fail
  refine (Tryz.strings_HasPrefix _ _ _).mono ?_
  rintro e w' ⟨rfl, hw⟩
  subst hw
  rw [show Lib.hasPrefix (ByteArray.mk #[45, 49, 46, 53, 101, 43]).data.toList (ByteArray.mk #[45]).data.toList = true by decide +kernel]
  go_wp2_with fail
  refine (digits_lit _ 1 _ (by decide) (by decide +kernel)).mono ?_
  rintro e w' ⟨rfl, hw⟩
  subst hw
  go_wp2_with fail
  refine (digits_lit _ 1 _ (by decide) (by decide +kernel)).mono ?_
  rintro e w' ⟨rfl, hw⟩
  subst hw
  go_wp2_with fail
  refine (digits_lit _ 0 _ (by decide) (by decide +kernel)).mono ?_
  rintro e w' ⟨rfl, hw⟩
  subst hw
  go_wp2_with fail
  go_ret
  exact ⟨rfl, rfl⟩
theorem unzig_k (w : World) : Calls Tryz.prog 37 #[.int .u64 4294967295] w fun e w' => e = .returned (.int .i64 (-2147483648)) ∧ w' = w := by
  have e1 : bits .and .u64 4294967295 1 = 1 := by decide +kernel
  have e2 : bits .xor .i64 2147483647 (-1) = -2147483648 := by decide +kernel
  go_enter Tryz.func37, Tryz.ntmps37
  go_wp2_with fail
  go_ret
  exact ⟨rfl, rfl⟩
theorem narrow_k (w : World) : Calls Tryz.prog 17 #[.int .u8 17, .int .u64 4294967295] w fun e w' => e = .returned (.int .u64 18446744071562067968) ∧ w' = w := by
  go_enter Tryz.func17, Tryz.ntmps17
  go_wp2_with fail
  refine (unzig_k _).mono ?_
  rintro e w' ⟨rfl, hw⟩
  subst hw
  go_wp2_with fail
  go_ret
  exact ⟨congrArg (fun n => Ending.returned (.int .u64 n)) (by decide +kernel), rfl⟩
theorem widen_l (w : World) : Calls Tryz.prog 23 #[.int .u32 1036831949] w fun e w' => e = .returned (.int .u64 4591870180174331904) ∧ w' = w := by
  have h41 : ∀ w, (callFunc 41 #[.int .u32 1036831949]).run Tryz.prog w = .ok (.value (.float .f32 1036831949)) w := run_41 1036831949
  have h55 : ∀ w, (callFunc 55 #[.float .f64 4591870180174331904]).run Tryz.prog w = .ok (.value (.int .u64 4591870180174331904)) w := fun w => by kernel_rfl
  have hcv := conv_b
  go_enter Tryz.func23, Tryz.ntmps23
  go_wp2_with fail
  go_ret
  exact ⟨rfl, rfl⟩
theorem cut_m (w : World) : Calls Tryz.prog 24 #[.int .u64 4591870180174331904] w fun e w' => e = .returned (.int .u32 1036831949) ∧ w' = w := by
  have h42 : ∀ w, (callFunc 42 #[.int .u64 4591870180174331904]).run Tryz.prog w = .ok (.value (.float .f64 4591870180174331904)) w := run_42 4591870180174331904
  have h56 : ∀ w, (callFunc 56 #[.float .f32 1036831949]).run Tryz.prog w = .ok (.value (.int .u32 1036831949)) w := fun w => by kernel_rfl
  have hcv := conv_b'
  go_enter Tryz.func24, Tryz.ntmps24
  go_wp2_with fail
  go_ret
  exact ⟨rfl, rfl⟩
theorem order_o (w : World) : Calls Tryz.prog 52 #[.int .i64 (-1), .int .i64 0] w fun e w' => e = .returned (.int .i64 (-1)) ∧ w' = w := by
  go_enter Tryz.func52, Tryz.ntmps52
  go_wp2_with fail
  go_ret
  exact ⟨rfl, rfl⟩
theorem compare_o (w : World) : Calls Tryz.prog 22 #[.int .u8 5, .int .u64 18446744073709551615, .int .u64 0] w fun e w' => e = .returned (.int .i64 (-1)) ∧ w' = w := by
  go_enter Tryz.func22, Tryz.ntmps22
  go_wp2_with fail
  refine (sort_5 _).mono ?_
  rintro e w' ⟨rfl, hw⟩
  subst hw
  have hw1 : wrap64 18446744073709551615 = -1 := by decide +kernel
  have hw0 : wrap64 0 = 0 := by decide +kernel
  go_wp2_with fail
  refine (order_o _).mono ?_
  rintro e w' ⟨rfl, hw⟩
  subst hw
  go_wp2_with fail
  go_ret
  exact ⟨rfl, rfl⟩
end Go.Proofs.YtdfodfflkmcgpaaGreatDoor
/- The whole numbers that works() reads. -/
namespace Go.Proofs.YtdfodfflkmcgpaaGreatDoor
open Go.RowKit Go.Sort
set_option linter.unusedVariables false
set_option maxRecDepth 100000
theorem cutPrefix_lit (s p r : ByteArray) (k : Bool) (w : World) (h : (⟨(Lib.trimPrefix s.data.toList p.data.toList).toArray⟩ : ByteArray) = r) (hk : Lib.hasPrefix s.data.toList p.data.toList = k) :
    Calls Tryz.prog 60 #[.string s, .string p] w fun e w' => e = .returned (.tuple #[.string r, .bool k]) ∧ w' = w := by
  subst h; subst hk
  exact Tryz.strings_CutPrefix s p w
theorem trimLeft_lit (s r : ByteArray) (w : World) (h : (⟨(Lib.trimLeftB s.data.toList 48).toArray⟩ : ByteArray) = r) :
    Calls Tryz.prog 66 #[.string s, .string ⟨#[48]⟩] w fun e w' => e = .returned (.string r) ∧ w' = w := by
  subst h
  exact Tryz.strings_TrimLeft_one s 48 (by decide) w
theorem trimRight_lit (s r : ByteArray) (w : World) (hs : s.size ≤ 9223372036854775807) (h : (⟨(Lib.trimRightB s.data.toList 48).toArray⟩ : ByteArray) = r) :
    Calls Tryz.prog 67 #[.string s, .string ⟨#[48]⟩] w fun e w' => e = .returned (.string r) ∧ w' = w := by
  subst h
  exact Tryz.strings_TrimRight_one s 48 (by decide) w hs
theorem cut_lit {B : Nat} (s : ByteArray) (a b : ByteArray) (k : Bool) (w : World) (hG : Good B w) (hs : s.size < 4000000) (hc : Lib.cut s.data.toList [46] = (a.data.toList, b.data.toList, k)) :
    Calls Tryz.prog 65 #[.string s, .string ⟨#[46]⟩] w fun e w' => e = .returned (.tuple #[.string a, .string b, .bool k]) ∧ Below B w w' := by
  refine (cut_to s 46 w hG hs _ _ _ hc).mono ?_
  rintro e w' ⟨sa, sb, rfl, ha, hb, hw⟩
  have h1 : sa = a := ByteArray.ext (Array.ext' ha.out)
  have h2 : sb = b := ByteArray.ext (Array.ext' hb.out)
  exact ⟨by rw [h1, h2], hw⟩
theorem indexAny_lit {B : Nat} (s : ByteArray) (n : Int) (w : World) (hB : B ≤ w.heap.size) (hs : s.size < 4000000) (has : ∀ b ∈ s.data.toList, b.toNat < 128) (h : Lib.indexAny s.data.toList [101, 69] = n) :
    Calls Tryz.prog 63 #[.string s, .string ⟨#[101, 69]⟩] w fun e w' => e = .returned (.int .i64 n) ∧ Below B w w' := by
  subst h
  refine (Tryz.strings_IndexAny_laid s ⟨#[101, 69]⟩ w (by omega) (by decide) (fun j b hj => has b (List.mem_of_getElem? hj)) (fun j b hj => ?_)).mono fun e w' ⟨he, hb⟩ => ⟨he, hb.mono hB⟩
  have : b ∈ [101, 69] := List.mem_of_getElem? hj
  simp at this
  rcases this with rfl | rfl <;> decide
theorem parseUint_lit {B : Nat} (s : ByteArray) (u : Nat) (w : World) (hB : B ≤ w.heap.size) (hs : s.size < 4000000) (h : Lib.parseUintB 64 s.data.toList = .ok u) :
    Calls Tryz.prog 89 #[.string s, .int .i64 10, .int .i64 64] w fun e w' => e = .returned (.tuple #[.int .u64 u, .nilIface]) ∧ Below B w w' := by
  refine (Tryz.strconv_ParseUint_10_at64_ok s (by omega) u h w).mono fun e w' ⟨he, hw⟩ => ⟨he, ?_⟩
  rcases hw with rfl | hw
  · exact Below.refl _ _
  · exact bw_below hB s hw
theorem exponent_lit {B : Nat} (s : ByteArray) (n : Int) (w : World) (hB : B ≤ w.heap.size) (hs : s.size ≤ 18) (h : Lib.atoi s.data.toList = some n) (h0 : -1099511627776 ≤ n) (h1 : n ≤ 1099511627776) :
    Calls Tryz.prog 64 #[.string s] w fun e w' => e = .returned (.int .i64 n) ∧ Below B w w' := by
  have m1 : max n (-1099511627776) = n := by omega
  have m2 : min n 1099511627776 = n := by omega
  go_enter Tryz.func64, Tryz.ntmps64
  go_wp2_with fail
  refine (atoi_to s n w hB hs h).mono ?_
  rintro e w1 ⟨rfl, hb⟩
  go_wp2_with fail
  go_ret
  exact ⟨rfl, hb⟩
theorem fit_lit {B : Nat} (s : ByteArray) (u : Nat) (ok : Bool) (w : World) (hB : B ≤ w.heap.size) (hs : s.size < 4000000) (h : Lib.parseUintB 64 s.data.toList = .ok u) (hu : u < 9223372036854775808)
   (hf : ∀ w, Calls Tryz.prog 16 #[.int .u8 5, .int .u64 u] w fun e w' => e = .returned (.bool ok) ∧ w' = w) :
    Calls Tryz.prog 62 #[.int .u8 5, .bool false, .string s] w fun e w' => e = .returned (.tuple #[.int .u64 (if ok then u else 0), .int .i64 (if ok then 0 else 31)]) ∧ Below B w w' := by
  have hge : decide ((u : Int) ≥ 9223372036854775808) = false := by rw [decide_eq_false_iff_not]; omega
  have HF := Lib.hid hf
  clear hf
  go_enter Tryz.func62, Tryz.ntmps62
  go_wp2_with fail
  refine (parseUint_lit s u w hB hs h).mono ?_
  rintro e w1 ⟨rfl, hb⟩
  go_wp2_with fail
  refine (sort_5 _).mono ?_
  rintro e w2 ⟨rfl, hw⟩
  rw [hw]
  go_wp2_with fail
  refine (HF.out _).mono ?_
  rintro e w2 ⟨rfl, hw⟩
  rw [hw]
  cases ok
  · go_wp2_with fail
    go_ret2
    exact ⟨rfl, hb⟩
  · go_wp2_with fail
    go_ret2
    exact ⟨rfl, hb⟩
theorem read_h {B : Nat} (w : World) (hB : B ≤ w.heap.size) :
    Calls Tryz.prog 28 #[.int .u8 5, .string ⟨#[50, 49, 52, 55, 52, 56, 51, 54, 52, 56]⟩] w fun e w' => e = .returned (.tuple #[.int .u64 0, .int .i64 31]) ∧ Below B w w' := by
  go_enter Tryz.func28, Tryz.ntmps28
  go_wp2_with fail
  refine (sort_5 _).mono ?_
  rintro e w2 ⟨rfl, hw⟩
  subst hw
  go_wp2_with fail
  refine (cutPrefix_lit _ _ ⟨#[50, 49, 52, 55, 52, 56, 51, 54, 52, 56]⟩ false _ (by decide +kernel) (by decide +kernel)).mono ?_
  rintro e w2 ⟨rfl, hw⟩
  subst hw
  go_wp2_with fail
  refine (digits_lit _ 10 _ (by decide) (by decide +kernel)).mono ?_
  rintro e w2 ⟨rfl, hw⟩
  subst hw
  go_wp2_with fail
  refine (fit_lit _ 2147483648 false _ hB (by decide) (by decide +kernel) (by decide) fits_5a).mono ?_
  rintro e w1 ⟨rfl, hb⟩
  go_wp2_with fail
  go_ret2
  exact ⟨rfl, hb⟩
theorem read_i (w : World) :
    Calls Tryz.prog 28 #[.int .u8 5, .string ⟨#[48, 48, 55]⟩] w fun e w' => e = .returned (.tuple #[.int .u64 0, .int .i64 30]) ∧ w' = w := by
  go_enter Tryz.func28, Tryz.ntmps28
  go_wp2_with fail
  refine (sort_5 _).mono ?_
  rintro e w2 ⟨rfl, hw⟩
  subst hw
  go_wp2_with fail
  refine (cutPrefix_lit _ _ ⟨#[48, 48, 55]⟩ false _ (by decide +kernel) (by decide +kernel)).mono ?_
  rintro e w2 ⟨rfl, hw⟩
  subst hw
  go_wp2_with fail
  refine (digits_lit _ 3 _ (by decide) (by decide +kernel)).mono ?_
  rintro e w2 ⟨rfl, hw⟩
  subst hw
  go_wp2_with fail
  go_ret2
  exact ⟨rfl, rfl⟩
theorem num_f (w : World) :
    Calls Tryz.prog 31 #[.string ⟨#[50, 46, 53, 48, 101, 49]⟩] w fun e w' => e = .returned (.int .i64 6) ∧ w' = w := by
  go_enter Tryz.func31, Tryz.ntmps31
  go_wp2_with fail
  refine (Tryz.strings_HasPrefix _ _ _).mono ?_
  rintro e w' ⟨rfl, hw⟩
  subst hw
  rw [show Lib.hasPrefix (ByteArray.mk #[50, 46, 53, 48, 101, 49]).data.toList (ByteArray.mk #[45]).data.toList = false by decide +kernel]
  go_wp2_with fail
  refine (digits_lit _ 1 _ (by decide) (by decide +kernel)).mono ?_
  rintro e w' ⟨rfl, hw⟩
  subst hw
  go_wp2_with fail
  refine (digits_lit _ 2 _ (by decide) (by decide +kernel)).mono ?_
  rintro e w' ⟨rfl, hw⟩
  subst hw
  go_wp2_with fail
  refine (digits_lit _ 1 _ (by decide) (by decide +kernel)).mono ?_
  rintro e w' ⟨rfl, hw⟩
  subst hw
  go_wp2_with fail
  go_ret
  exact ⟨rfl, rfl⟩
theorem num_d (w : World) :
    Calls Tryz.prog 31 #[.string ⟨#[49, 54, 55, 55, 55, 50, 49, 55]⟩] w fun e w' => e = .returned (.int .i64 8) ∧ w' = w := by
  go_enter Tryz.func31, Tryz.ntmps31
  go_wp2_with fail
  refine (Tryz.strings_HasPrefix _ _ _).mono ?_
  rintro e w' ⟨rfl, hw⟩
  subst hw
  rw [show Lib.hasPrefix (ByteArray.mk #[49, 54, 55, 55, 55, 50, 49, 55]).data.toList (ByteArray.mk #[45]).data.toList = false by decide +kernel]
  go_wp2_with fail
  refine (digits_lit _ 8 _ (by decide) (by decide +kernel)).mono ?_
  rintro e w' ⟨rfl, hw⟩
  subst hw
  go_wp2_with fail
  go_ret
  exact ⟨rfl, rfl⟩
theorem whole_f {B : Nat} (w : World) (hG : Good B w) (hB : B ≤ w.heap.size) :
    Calls Tryz.prog 30 #[.int .u8 5, .string ⟨#[50, 46, 53, 48, 101, 49]⟩] w fun e w' => e = .returned (.tuple #[.int .u64 25, .int .i64 0]) ∧ Below B w w' := by
  go_enter Tryz.func30, Tryz.ntmps30
  go_wp2_with fail
  refine (sort_5 _).mono ?_
  rintro e w2 ⟨rfl, hw⟩
  subst hw
  go_wp2_with fail
  refine (num_f _).mono ?_
  rintro e w2 ⟨rfl, hw⟩
  subst hw
  go_wp2_with fail
  refine (cutPrefix_lit _ _ ⟨#[50, 46, 53, 48, 101, 49]⟩ false _ (by decide +kernel) (by decide +kernel)).mono ?_
  rintro e w2 ⟨rfl, hw⟩
  subst hw
  go_wp2_with fail
  refine (indexAny_lit _ 4 _ hB (by decide) (by decide +kernel) (by decide +kernel)).mono ?_
  rintro e w1 ⟨rfl, hb1⟩
  go_wp2_with fail
  refine (exponent_lit _ 1 _ (Nat.le_trans hB hb1.size) (by decide) (by decide +kernel) (by decide) (by decide)).mono ?_
  rintro e w2 ⟨rfl, hb2⟩
  go_wp2_with fail
  refine (cut_lit _ ⟨#[50]⟩ ⟨#[53, 48]⟩ true _ (hG.below (hb1.trans hb2)) (by decide) (by decide +kernel)).mono ?_
  rintro e w3 ⟨rfl, hb3⟩
  go_wp2_with fail
  refine (trimLeft_lit _ ⟨#[50, 53, 48]⟩ _ (by decide +kernel)).mono ?_
  rintro e w4 ⟨rfl, hw⟩
  rw [hw]
  go_wp2_with fail
  refine (trimRight_lit _ ⟨#[50, 53]⟩ _ (by decide) (by decide +kernel)).mono ?_
  rintro e w4 ⟨rfl, hw⟩
  rw [hw]
  go_wp2_with fail
  refine (Tryz.strings_Repeat_zero _ _).mono ?_
  rintro e w4 ⟨rfl, hw⟩
  rw [hw]
  go_wp2_with fail
  refine (fit_lit _ 25 true _ (Nat.le_trans hB ((hb1.trans hb2).trans hb3).size) (by decide) (by decide +kernel) (by decide) fits_5b).mono ?_
  rintro e w4 ⟨rfl, hb⟩
  go_wp2_with fail
  go_ret2
  exact ⟨rfl, ((hb1.trans hb2).trans hb3).trans hb⟩
end Go.Proofs.YtdfodfflkmcgpaaGreatDoor
