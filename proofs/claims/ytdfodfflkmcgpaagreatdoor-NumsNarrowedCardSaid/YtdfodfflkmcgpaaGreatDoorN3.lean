/- NumsNarrowed, walked: what a varint comes to fits; what fits comes to itself. -/
import Derived.Test.YtdfodfflkmcgpaaGreatDoorC7
import Derived.Test.YtdfodfflkmcgpaaGreatDoorN2
namespace Go.Proofs.YtdfodfflkmcgpaaGreatDoor
open Go.RowKit Go.Sort
set_option linter.unusedVariables false
set_option maxRecDepth 100000
theorem narrowN_bd (k v : Int) (h0 : 0 ≤ v) (h1 : v < 18446744073709551616) : 0 ≤ narrowN k v ∧ narrowN k v < 18446744073709551616 := by
  unfold narrowN sx32 unz
  repeat' split
  all_goals omega
theorem law_own (k v : Int) (h0 : 0 ≤ v) (h1 : v < 18446744073709551616) (hk : k = 5 ∨ k = 3 ∨ k = 13 ∨ k = 4 ∨ k = 8 ∨ k = 14) :
    fitsN k (narrowN k v) = true ∧ narrowN k (narrowN k v) = narrowN k v ∧ (fitsN k v = true → narrowN k v = v) := by
  rcases hk with rfl | rfl | rfl | rfl | rfl | rfl
  all_goals simp [fitsN, sortN, narrowN]
  all_goals (try unfold sx32)
  all_goals (repeat' split)
  all_goals (try omega)
theorem law_zig (k v : Int) (h0 : 0 ≤ v) (h1 : v < 18446744073709551616) (hk : k = 17 ∨ k = 18) : fitsN k (narrowN k v) = true := by
  rcases hk with rfl | rfl
  all_goals simp [fitsN, sortN, narrowN]
  all_goals (try unfold sx32 unz)
  all_goals (repeat' split)
  all_goals (try omega)
theorem own_walk {B : Nat} (k n v : Int) (b : Bool) (w : World) (hG : Good B w) (hB : B ≤ w.heap.size) (hk : k = 5 ∨ k = 3 ∨ k = 13 ∨ k = 4 ∨ k = 8 ∨ k = 14) (hbv : b = true → n = v)
    (H1 : Hid (∀ w, Calls Tryz.prog 17 #[.int .u8 k, .int .u64 v] w fun e w' => e = .returned (.int .u64 n) ∧ w' = w))
    (H2 : Hid (∀ w, Calls Tryz.prog 16 #[.int .u8 k, .int .u64 n] w fun e w' => e = .returned (.bool true) ∧ w' = w))
    (H3 : Hid (∀ w, Calls Tryz.prog 16 #[.int .u8 k, .int .u64 v] w fun e w' => e = .returned (.bool b) ∧ w' = w))
    (H4 : Hid (∀ w, Calls Tryz.prog 17 #[.int .u8 k, .int .u64 n] w fun e w' => e = .returned (.int .u64 n) ∧ w' = w)) :
    Calls Tryz.prog 11 #[.int .u8 k, .int .u64 v] w fun e w' => e = .returned (.bool true) ∧ Below B w w' := by
  have hnn : (n == n) = true := by simp
  cases b
  · clear hbv
    rcases hk with rfl | rfl | rfl | rfl | rfl | rfl
    · go_enter Tryz.func11, Tryz.ntmps11
      go_wp2_with fail
      refine (works_any _ hG hB).mono ?_
      rintro e w1 ⟨rfl, hb1⟩
      go_wp2_with fail
      refine (H1.out _).mono ?_
      rintro e w2 ⟨rfl, hw⟩
      rw [hw]
      clear hw w2
      go_wp2_with fail
      refine (H2.out _).mono ?_
      rintro e w2 ⟨rfl, hw⟩
      rw [hw]
      clear hw w2
      go_wp2_with fail
      refine (H3.out _).mono ?_
      rintro e w2 ⟨rfl, hw⟩
      rw [hw]
      clear hw w2
      go_wp2_with fail
      refine (H4.out _).mono ?_
      rintro e w2 ⟨rfl, hw⟩
      rw [hw]
      clear hw w2
      go_wp2_with fail
      go_ret
      exact ⟨rfl, hb1⟩
    · go_enter Tryz.func11, Tryz.ntmps11
      go_wp2_with fail
      refine (works_any _ hG hB).mono ?_
      rintro e w1 ⟨rfl, hb1⟩
      go_wp2_with fail
      refine (H1.out _).mono ?_
      rintro e w2 ⟨rfl, hw⟩
      rw [hw]
      clear hw w2
      go_wp2_with fail
      refine (H2.out _).mono ?_
      rintro e w2 ⟨rfl, hw⟩
      rw [hw]
      clear hw w2
      go_wp2_with fail
      refine (H3.out _).mono ?_
      rintro e w2 ⟨rfl, hw⟩
      rw [hw]
      clear hw w2
      go_wp2_with fail
      refine (H4.out _).mono ?_
      rintro e w2 ⟨rfl, hw⟩
      rw [hw]
      clear hw w2
      go_wp2_with fail
      go_ret
      exact ⟨rfl, hb1⟩
    · go_enter Tryz.func11, Tryz.ntmps11
      go_wp2_with fail
      refine (works_any _ hG hB).mono ?_
      rintro e w1 ⟨rfl, hb1⟩
      go_wp2_with fail
      refine (H1.out _).mono ?_
      rintro e w2 ⟨rfl, hw⟩
      rw [hw]
      clear hw w2
      go_wp2_with fail
      refine (H2.out _).mono ?_
      rintro e w2 ⟨rfl, hw⟩
      rw [hw]
      clear hw w2
      go_wp2_with fail
      refine (H3.out _).mono ?_
      rintro e w2 ⟨rfl, hw⟩
      rw [hw]
      clear hw w2
      go_wp2_with fail
      refine (H4.out _).mono ?_
      rintro e w2 ⟨rfl, hw⟩
      rw [hw]
      clear hw w2
      go_wp2_with fail
      go_ret
      exact ⟨rfl, hb1⟩
    · go_enter Tryz.func11, Tryz.ntmps11
      go_wp2_with fail
      refine (works_any _ hG hB).mono ?_
      rintro e w1 ⟨rfl, hb1⟩
      go_wp2_with fail
      refine (H1.out _).mono ?_
      rintro e w2 ⟨rfl, hw⟩
      rw [hw]
      clear hw w2
      go_wp2_with fail
      refine (H2.out _).mono ?_
      rintro e w2 ⟨rfl, hw⟩
      rw [hw]
      clear hw w2
      go_wp2_with fail
      refine (H3.out _).mono ?_
      rintro e w2 ⟨rfl, hw⟩
      rw [hw]
      clear hw w2
      go_wp2_with fail
      refine (H4.out _).mono ?_
      rintro e w2 ⟨rfl, hw⟩
      rw [hw]
      clear hw w2
      go_wp2_with fail
      go_ret
      exact ⟨rfl, hb1⟩
    · go_enter Tryz.func11, Tryz.ntmps11
      go_wp2_with fail
      refine (works_any _ hG hB).mono ?_
      rintro e w1 ⟨rfl, hb1⟩
      go_wp2_with fail
      refine (H1.out _).mono ?_
      rintro e w2 ⟨rfl, hw⟩
      rw [hw]
      clear hw w2
      go_wp2_with fail
      refine (H2.out _).mono ?_
      rintro e w2 ⟨rfl, hw⟩
      rw [hw]
      clear hw w2
      go_wp2_with fail
      refine (H3.out _).mono ?_
      rintro e w2 ⟨rfl, hw⟩
      rw [hw]
      clear hw w2
      go_wp2_with fail
      refine (H4.out _).mono ?_
      rintro e w2 ⟨rfl, hw⟩
      rw [hw]
      clear hw w2
      go_wp2_with fail
      go_ret
      exact ⟨rfl, hb1⟩
    · go_enter Tryz.func11, Tryz.ntmps11
      go_wp2_with fail
      refine (works_any _ hG hB).mono ?_
      rintro e w1 ⟨rfl, hb1⟩
      go_wp2_with fail
      refine (H1.out _).mono ?_
      rintro e w2 ⟨rfl, hw⟩
      rw [hw]
      clear hw w2
      go_wp2_with fail
      refine (H2.out _).mono ?_
      rintro e w2 ⟨rfl, hw⟩
      rw [hw]
      clear hw w2
      go_wp2_with fail
      refine (H3.out _).mono ?_
      rintro e w2 ⟨rfl, hw⟩
      rw [hw]
      clear hw w2
      go_wp2_with fail
      refine (H4.out _).mono ?_
      rintro e w2 ⟨rfl, hw⟩
      rw [hw]
      clear hw w2
      go_wp2_with fail
      go_ret
      exact ⟨rfl, hb1⟩
  · obtain rfl := hbv rfl
    clear hbv
    rcases hk with rfl | rfl | rfl | rfl | rfl | rfl
    · go_enter Tryz.func11, Tryz.ntmps11
      go_wp2_with fail
      refine (works_any _ hG hB).mono ?_
      rintro e w1 ⟨rfl, hb1⟩
      go_wp2_with fail
      refine (H1.out _).mono ?_
      rintro e w2 ⟨rfl, hw⟩
      rw [hw]
      clear hw w2
      go_wp2_with fail
      refine (H2.out _).mono ?_
      rintro e w2 ⟨rfl, hw⟩
      rw [hw]
      clear hw w2
      go_wp2_with fail
      refine (H3.out _).mono ?_
      rintro e w2 ⟨rfl, hw⟩
      rw [hw]
      clear hw w2
      go_wp2_with fail
      refine (H4.out _).mono ?_
      rintro e w2 ⟨rfl, hw⟩
      rw [hw]
      clear hw w2
      go_wp2_with fail
      go_ret
      exact ⟨rfl, hb1⟩
    · go_enter Tryz.func11, Tryz.ntmps11
      go_wp2_with fail
      refine (works_any _ hG hB).mono ?_
      rintro e w1 ⟨rfl, hb1⟩
      go_wp2_with fail
      refine (H1.out _).mono ?_
      rintro e w2 ⟨rfl, hw⟩
      rw [hw]
      clear hw w2
      go_wp2_with fail
      refine (H2.out _).mono ?_
      rintro e w2 ⟨rfl, hw⟩
      rw [hw]
      clear hw w2
      go_wp2_with fail
      refine (H3.out _).mono ?_
      rintro e w2 ⟨rfl, hw⟩
      rw [hw]
      clear hw w2
      go_wp2_with fail
      refine (H4.out _).mono ?_
      rintro e w2 ⟨rfl, hw⟩
      rw [hw]
      clear hw w2
      go_wp2_with fail
      go_ret
      exact ⟨rfl, hb1⟩
    · go_enter Tryz.func11, Tryz.ntmps11
      go_wp2_with fail
      refine (works_any _ hG hB).mono ?_
      rintro e w1 ⟨rfl, hb1⟩
      go_wp2_with fail
      refine (H1.out _).mono ?_
      rintro e w2 ⟨rfl, hw⟩
      rw [hw]
      clear hw w2
      go_wp2_with fail
      refine (H2.out _).mono ?_
      rintro e w2 ⟨rfl, hw⟩
      rw [hw]
      clear hw w2
      go_wp2_with fail
      refine (H3.out _).mono ?_
      rintro e w2 ⟨rfl, hw⟩
      rw [hw]
      clear hw w2
      go_wp2_with fail
      refine (H4.out _).mono ?_
      rintro e w2 ⟨rfl, hw⟩
      rw [hw]
      clear hw w2
      go_wp2_with fail
      go_ret
      exact ⟨rfl, hb1⟩
    · go_enter Tryz.func11, Tryz.ntmps11
      go_wp2_with fail
      refine (works_any _ hG hB).mono ?_
      rintro e w1 ⟨rfl, hb1⟩
      go_wp2_with fail
      refine (H1.out _).mono ?_
      rintro e w2 ⟨rfl, hw⟩
      rw [hw]
      clear hw w2
      go_wp2_with fail
      refine (H2.out _).mono ?_
      rintro e w2 ⟨rfl, hw⟩
      rw [hw]
      clear hw w2
      go_wp2_with fail
      refine (H3.out _).mono ?_
      rintro e w2 ⟨rfl, hw⟩
      rw [hw]
      clear hw w2
      go_wp2_with fail
      refine (H4.out _).mono ?_
      rintro e w2 ⟨rfl, hw⟩
      rw [hw]
      clear hw w2
      go_wp2_with fail
      go_ret
      exact ⟨rfl, hb1⟩
    · go_enter Tryz.func11, Tryz.ntmps11
      go_wp2_with fail
      refine (works_any _ hG hB).mono ?_
      rintro e w1 ⟨rfl, hb1⟩
      go_wp2_with fail
      refine (H1.out _).mono ?_
      rintro e w2 ⟨rfl, hw⟩
      rw [hw]
      clear hw w2
      go_wp2_with fail
      refine (H2.out _).mono ?_
      rintro e w2 ⟨rfl, hw⟩
      rw [hw]
      clear hw w2
      go_wp2_with fail
      refine (H3.out _).mono ?_
      rintro e w2 ⟨rfl, hw⟩
      rw [hw]
      clear hw w2
      go_wp2_with fail
      refine (H4.out _).mono ?_
      rintro e w2 ⟨rfl, hw⟩
      rw [hw]
      clear hw w2
      go_wp2_with fail
      go_ret
      exact ⟨rfl, hb1⟩
    · go_enter Tryz.func11, Tryz.ntmps11
      go_wp2_with fail
      refine (works_any _ hG hB).mono ?_
      rintro e w1 ⟨rfl, hb1⟩
      go_wp2_with fail
      refine (H1.out _).mono ?_
      rintro e w2 ⟨rfl, hw⟩
      rw [hw]
      clear hw w2
      go_wp2_with fail
      refine (H2.out _).mono ?_
      rintro e w2 ⟨rfl, hw⟩
      rw [hw]
      clear hw w2
      go_wp2_with fail
      refine (H3.out _).mono ?_
      rintro e w2 ⟨rfl, hw⟩
      rw [hw]
      clear hw w2
      go_wp2_with fail
      refine (H4.out _).mono ?_
      rintro e w2 ⟨rfl, hw⟩
      rw [hw]
      clear hw w2
      go_wp2_with fail
      go_ret
      exact ⟨rfl, hb1⟩
theorem zig_walk {B : Nat} (k n m v : Int) (b : Bool) (w : World) (hG : Good B w) (hB : B ≤ w.heap.size) (hk : k = 17 ∨ k = 18)
    (H1 : Hid (∀ w, Calls Tryz.prog 17 #[.int .u8 k, .int .u64 v] w fun e w' => e = .returned (.int .u64 n) ∧ w' = w))
    (H2 : Hid (∀ w, Calls Tryz.prog 16 #[.int .u8 k, .int .u64 n] w fun e w' => e = .returned (.bool true) ∧ w' = w))
    (H3 : Hid (∀ w, Calls Tryz.prog 16 #[.int .u8 k, .int .u64 v] w fun e w' => e = .returned (.bool b) ∧ w' = w))
    (H4 : Hid (∀ w, Calls Tryz.prog 17 #[.int .u8 k, .int .u64 n] w fun e w' => e = .returned (.int .u64 m) ∧ w' = w)) :
    Calls Tryz.prog 11 #[.int .u8 k, .int .u64 v] w fun e w' => e = .returned (.bool true) ∧ Below B w w' := by
  rcases hk with rfl | rfl
  · go_enter Tryz.func11, Tryz.ntmps11
    go_wp2_with fail
    refine (works_any _ hG hB).mono ?_
    rintro e w1 ⟨rfl, hb1⟩
    go_wp2_with fail
    refine (H1.out _).mono ?_
    rintro e w2 ⟨rfl, hw⟩
    rw [hw]
    clear hw w2
    go_wp2_with fail
    refine (H2.out _).mono ?_
    rintro e w2 ⟨rfl, hw⟩
    rw [hw]
    clear hw w2
    go_wp2_with fail
    refine (H3.out _).mono ?_
    rintro e w2 ⟨rfl, hw⟩
    rw [hw]
    clear hw w2
    go_wp2_with fail
    refine (H4.out _).mono ?_
    rintro e w2 ⟨rfl, hw⟩
    rw [hw]
    clear hw w2
    go_wp2_with fail
    go_ret
    exact ⟨rfl, hb1⟩
  · go_enter Tryz.func11, Tryz.ntmps11
    go_wp2_with fail
    refine (works_any _ hG hB).mono ?_
    rintro e w1 ⟨rfl, hb1⟩
    go_wp2_with fail
    refine (H1.out _).mono ?_
    rintro e w2 ⟨rfl, hw⟩
    rw [hw]
    clear hw w2
    go_wp2_with fail
    refine (H2.out _).mono ?_
    rintro e w2 ⟨rfl, hw⟩
    rw [hw]
    clear hw w2
    go_wp2_with fail
    refine (H3.out _).mono ?_
    rintro e w2 ⟨rfl, hw⟩
    rw [hw]
    clear hw w2
    go_wp2_with fail
    refine (H4.out _).mono ?_
    rintro e w2 ⟨rfl, hw⟩
    rw [hw]
    clear hw w2
    go_wp2_with fail
    go_ret
    exact ⟨rfl, hb1⟩
theorem rest_walk {B : Nat} (k m v : Int) (b c : Bool) (w : World) (hG : Good B w) (hB : B ≤ w.heap.size) (b5 : (k == 5) = false) (b3 : (k == 3) = false) (b13 : (k == 13) = false) (b4 : (k == 4) = false) (b8 : (k == 8) = false) (b14 : (k == 14) = false) (b17 : (k == 17) = false) (b18 : (k == 18) = false)
    (H1 : Hid (∀ w, Calls Tryz.prog 17 #[.int .u8 k, .int .u64 v] w fun e w' => e = .returned (.int .u64 0) ∧ w' = w))
    (H2 : Hid (∀ w, Calls Tryz.prog 16 #[.int .u8 k, .int .u64 0] w fun e w' => e = .returned (.bool c) ∧ w' = w))
    (H3 : Hid (∀ w, Calls Tryz.prog 16 #[.int .u8 k, .int .u64 v] w fun e w' => e = .returned (.bool b) ∧ w' = w))
    (H4 : Hid (∀ w, Calls Tryz.prog 17 #[.int .u8 k, .int .u64 0] w fun e w' => e = .returned (.int .u64 m) ∧ w' = w)) :
    Calls Tryz.prog 11 #[.int .u8 k, .int .u64 v] w fun e w' => e = .returned (.bool true) ∧ Below B w w' := by
  go_enter Tryz.func11, Tryz.ntmps11
  go_wp2_with fail
  refine (works_any _ hG hB).mono ?_
  rintro e w1 ⟨rfl, hb1⟩
  go_wp2_with fail
  refine (H1.out _).mono ?_
  rintro e w2 ⟨rfl, hw⟩
  rw [hw]
  clear hw w2
  go_wp2_with fail
  refine (H2.out _).mono ?_
  rintro e w2 ⟨rfl, hw⟩
  rw [hw]
  clear hw w2
  go_wp2_with fail
  refine (H3.out _).mono ?_
  rintro e w2 ⟨rfl, hw⟩
  rw [hw]
  clear hw w2
  go_wp2_with fail
  refine (H4.out _).mono ?_
  rintro e w2 ⟨rfl, hw⟩
  rw [hw]
  clear hw w2
  go_wp2_with fail
  go_ret
  exact ⟨rfl, hb1⟩
theorem narrowed_any {B : Nat} (k v : Int) (w : World) (hG : Good B w) (hB : B ≤ w.heap.size) (h0 : 0 ≤ v) (h1 : v < 18446744073709551616) :
    Calls Tryz.prog 11 #[.int .u8 k, .int .u64 v] w fun e w' => e = .returned (.bool true) ∧ Below B w w' := by
  have hbd := narrowN_bd k v h0 h1
  by_cases hk : k = 5 ∨ k = 3 ∨ k = 13 ∨ k = 4 ∨ k = 8 ∨ k = 14
  · obtain ⟨l1, l2, l3⟩ := law_own k v h0 h1 hk
    exact own_walk k (narrowN k v) v (fitsN k v) w hG hB hk l3 (Lib.hid fun w => narrow_any k v w h0 h1) (Lib.hid fun w => l1 ▸ fits_any k (narrowN k v) w hbd.1 hbd.2) (Lib.hid fun w => fits_any k v w h0 h1)
      (Lib.hid fun w => (narrow_any k (narrowN k v) w hbd.1 hbd.2).mono fun e w' ⟨he, hw⟩ => ⟨by rw [he, l2], hw⟩)
  · by_cases hz : k = 17 ∨ k = 18
    · have l1 := law_zig k v h0 h1 hz
      exact zig_walk k (narrowN k v) (narrowN k (narrowN k v)) v (fitsN k v) w hG hB hz (Lib.hid fun w => narrow_any k v w h0 h1) (Lib.hid fun w => l1 ▸ fits_any k (narrowN k v) w hbd.1 hbd.2) (Lib.hid fun w => fits_any k v w h0 h1)
        (Lib.hid fun w => narrow_any k (narrowN k v) w hbd.1 hbd.2)
    · have hn : narrowN k v = 0 := by
        unfold narrowN
        rw [if_neg (by omega), if_neg (by omega), if_neg (by omega), if_neg (by omega), if_neg (by omega), if_neg (by omega)]
      have hf : ∀ x : Int, k ≠ x → (k == x) = false := fun x hx => by rw [beq_eq_false_iff_ne]; exact hx
      exact rest_walk k (narrowN k 0) v (fitsN k v) (fitsN k 0) w hG hB (hf 5 (by omega)) (hf 3 (by omega)) (hf 13 (by omega)) (hf 4 (by omega)) (hf 8 (by omega)) (hf 14 (by omega)) (hf 17 (by omega)) (hf 18 (by omega))
        (Lib.hid fun w => hn ▸ narrow_any k v w h0 h1) (Lib.hid fun w => fits_any k 0 w (by decide) (by decide)) (Lib.hid fun w => fits_any k v w h0 h1) (Lib.hid fun w => narrow_any k 0 w (by decide) (by decide))
end Go.Proofs.YtdfodfflkmcgpaaGreatDoor
