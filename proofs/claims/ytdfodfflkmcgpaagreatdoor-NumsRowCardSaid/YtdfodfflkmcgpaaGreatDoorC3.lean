/- The whole numbers that works() reads. -/
import Derived.Test.YtdfodfflkmcgpaaGreatDoorC2
namespace Go.Proofs.YtdfodfflkmcgpaaGreatDoor
open Go.RowKit Go.Sort
set_option linter.unusedVariables false
set_option maxRecDepth 100000
theorem cutPrefix_lit (s p r : ByteArray) (k : Bool) (w : World) (h : (⟨(Lib.trimPrefix s.data.toList p.data.toList).toArray⟩ : ByteArray) = r) (hk : Lib.hasPrefix s.data.toList p.data.toList = k) :
    Calls Tryz.prog 60 #[.string s, .string p] w fun e w' => e = .returned (.tuple #[.string r, .bool k]) ∧ w' = w := by
  subst h; subst hk
  exact Tryz.strings_CutPrefix s p w
theorem trimLeft_lit (s r : ByteArray) (w : World) (h : (⟨(Lib.trimLeftB s.data.toList 48).toArray⟩ : ByteArray) = r) :
    Calls Tryz.prog 66 #[.string s, .string ⟨#[48]⟩] w fun e w' => e = .returned (.string r) ∧ w' = w := by
  subst h
  exact Tryz.strings_TrimLeft_one s 48 (by decide) w
theorem trimRight_lit (s r : ByteArray) (w : World) (hs : s.size ≤ 9223372036854775807) (h : (⟨(Lib.trimRightB s.data.toList 48).toArray⟩ : ByteArray) = r) :
    Calls Tryz.prog 67 #[.string s, .string ⟨#[48]⟩] w fun e w' => e = .returned (.string r) ∧ w' = w := by
  subst h
  exact Tryz.strings_TrimRight_one s 48 (by decide) w hs
theorem cut_lit {B : Nat} (s : ByteArray) (a b : ByteArray) (k : Bool) (w : World) (hG : Good B w) (hs : s.size < 4000000) (hc : Lib.cut s.data.toList [46] = (a.data.toList, b.data.toList, k)) :
    Calls Tryz.prog 65 #[.string s, .string ⟨#[46]⟩] w fun e w' => e = .returned (.tuple #[.string a, .string b, .bool k]) ∧ Below B w w' := by
  refine (cut_to s 46 w hG hs _ _ _ hc).mono ?_
  rintro e w' ⟨sa, sb, rfl, ha, hb, hw⟩
  have h1 : sa = a := ByteArray.ext (Array.ext' ha.out)
  have h2 : sb = b := ByteArray.ext (Array.ext' hb.out)
  exact ⟨by rw [h1, h2], hw⟩
theorem indexAny_lit {B : Nat} (s : ByteArray) (n : Int) (w : World) (hB : B ≤ w.heap.size) (hs : s.size < 4000000) (has : ∀ b ∈ s.data.toList, b.toNat < 128) (h : Lib.indexAny s.data.toList [101, 69] = n) :
    Calls Tryz.prog 63 #[.string s, .string ⟨#[101, 69]⟩] w fun e w' => e = .returned (.int .i64 n) ∧ Below B w w' := by
  subst h
  refine (Tryz.strings_IndexAny_laid s ⟨#[101, 69]⟩ w (by omega) (by decide) (fun j b hj => has b (List.mem_of_getElem? hj)) (fun j b hj => ?_)).mono fun e w' ⟨he, hb⟩ => ⟨he, hb.mono hB⟩
  have : b ∈ [101, 69] := List.mem_of_getElem? hj
  simp at this
  rcases this with rfl | rfl <;> decide
theorem parseUint_lit {B : Nat} (s : ByteArray) (u : Nat) (w : World) (hB : B ≤ w.heap.size) (hs : s.size < 4000000) (h : Lib.parseUintB 64 s.data.toList = .ok u) :
    Calls Tryz.prog 89 #[.string s, .int .i64 10, .int .i64 64] w fun e w' => e = .returned (.tuple #[.int .u64 u, .nilIface]) ∧ Below B w w' := by
  refine (Tryz.strconv_ParseUint_10_at64_ok s (by omega) u h w).mono fun e w' ⟨he, hw⟩ => ⟨he, ?_⟩
  rcases hw with rfl | hw
  · exact Below.refl _ _
  · exact bw_below hB s hw
theorem exponent_lit {B : Nat} (s : ByteArray) (n : Int) (w : World) (hB : B ≤ w.heap.size) (hs : s.size ≤ 18) (h : Lib.atoi s.data.toList = some n) (h0 : -1099511627776 ≤ n) (h1 : n ≤ 1099511627776) :
    Calls Tryz.prog 64 #[.string s] w fun e w' => e = .returned (.int .i64 n) ∧ Below B w w' := by
  have m1 : max n (-1099511627776) = n := by omega
  have m2 : min n 1099511627776 = n := by omega
  go_enter Tryz.func64, Tryz.ntmps64
  go_wp2_with fail
  refine (atoi_to s n w hB hs h).mono ?_
  rintro e w1 ⟨rfl, hb⟩
  go_wp2_with fail
  go_ret
  exact ⟨rfl, hb⟩
theorem fit_lit {B : Nat} (s : ByteArray) (u : Nat) (ok : Bool) (w : World) (hB : B ≤ w.heap.size) (hs : s.size < 4000000) (h : Lib.parseUintB 64 s.data.toList = .ok u) (hu : u < 9223372036854775808)
   (hf : ∀ w, Calls Tryz.prog 16 #[.int .u8 5, .int .u64 u] w fun e w' => e = .returned (.bool ok) ∧ w' = w) :
    Calls Tryz.prog 62 #[.int .u8 5, .bool false, .string s] w fun e w' => e = .returned (.tuple #[.int .u64 (if ok then u else 0), .int .i64 (if ok then 0 else 31)]) ∧ Below B w w' := by
  have hge : decide ((u : Int) ≥ 9223372036854775808) = false := by rw [decide_eq_false_iff_not]; omega
  have HF := Lib.hid hf
  clear hf
  go_enter Tryz.func62, Tryz.ntmps62
  go_wp2_with fail
  refine (parseUint_lit s u w hB hs h).mono ?_
  rintro e w1 ⟨rfl, hb⟩
  go_wp2_with fail
  refine (sort_5 _).mono ?_
  rintro e w2 ⟨rfl, hw⟩
  rw [hw]
  go_wp2_with fail
  refine (HF.out _).mono ?_
  rintro e w2 ⟨rfl, hw⟩
  rw [hw]
  cases ok
  · go_wp2_with fail
    go_ret2
    exact ⟨rfl, hb⟩
  · go_wp2_with fail
    go_ret2
    exact ⟨rfl, hb⟩
theorem read_h {B : Nat} (w : World) (hB : B ≤ w.heap.size) :
    Calls Tryz.prog 28 #[.int .u8 5, .string ⟨#[50, 49, 52, 55, 52, 56, 51, 54, 52, 56]⟩] w fun e w' => e = .returned (.tuple #[.int .u64 0, .int .i64 31]) ∧ Below B w w' := by
  go_enter Tryz.func28, Tryz.ntmps28
  go_wp2_with fail
  refine (sort_5 _).mono ?_
  rintro e w2 ⟨rfl, hw⟩
  subst hw
  go_wp2_with fail
  refine (cutPrefix_lit _ _ ⟨#[50, 49, 52, 55, 52, 56, 51, 54, 52, 56]⟩ false _ (by decide +kernel) (by decide +kernel)).mono ?_
  rintro e w2 ⟨rfl, hw⟩
  subst hw
  go_wp2_with fail
  refine (digits_lit _ 10 _ (by decide) (by decide +kernel)).mono ?_
  rintro e w2 ⟨rfl, hw⟩
  subst hw
  go_wp2_with fail
  refine (fit_lit _ 2147483648 false _ hB (by decide) (by decide +kernel) (by decide) fits_5a).mono ?_
  rintro e w1 ⟨rfl, hb⟩
  go_wp2_with fail
  go_ret2
  exact ⟨rfl, hb⟩
theorem read_i (w : World) :
    Calls Tryz.prog 28 #[.int .u8 5, .string ⟨#[48, 48, 55]⟩] w fun e w' => e = .returned (.tuple #[.int .u64 0, .int .i64 30]) ∧ w' = w := by
  go_enter Tryz.func28, Tryz.ntmps28
  go_wp2_with fail
  refine (sort_5 _).mono ?_
  rintro e w2 ⟨rfl, hw⟩
  subst hw
  go_wp2_with fail
  refine (cutPrefix_lit _ _ ⟨#[48, 48, 55]⟩ false _ (by decide +kernel) (by decide +kernel)).mono ?_
  rintro e w2 ⟨rfl, hw⟩
  subst hw
  go_wp2_with fail
  refine (digits_lit _ 3 _ (by decide) (by decide +kernel)).mono ?_
  rintro e w2 ⟨rfl, hw⟩
  subst hw
  go_wp2_with fail
  go_ret2
  exact ⟨rfl, rfl⟩
theorem num_f (w : World) :
    Calls Tryz.prog 31 #[.string ⟨#[50, 46, 53, 48, 101, 49]⟩] w fun e w' => e = .returned (.int .i64 6) ∧ w' = w := by
  go_enter Tryz.func31, Tryz.ntmps31
  go_wp2_with fail
  refine (Tryz.strings_HasPrefix _ _ _).mono ?_
  rintro e w' ⟨rfl, hw⟩
  subst hw
  rw [show Lib.hasPrefix (ByteArray.mk #[50, 46, 53, 48, 101, 49]).data.toList (ByteArray.mk #[45]).data.toList = false by decide +kernel]
  go_wp2_with fail
  refine (digits_lit _ 1 _ (by decide) (by decide +kernel)).mono ?_
  rintro e w' ⟨rfl, hw⟩
  subst hw
  go_wp2_with fail
  refine (digits_lit _ 2 _ (by decide) (by decide +kernel)).mono ?_
  rintro e w' ⟨rfl, hw⟩
  subst hw
  go_wp2_with fail
  refine (digits_lit _ 1 _ (by decide) (by decide +kernel)).mono ?_
  rintro e w' ⟨rfl, hw⟩
  subst hw
  go_wp2_with fail
  go_ret
  exact ⟨rfl, rfl⟩
theorem num_d (w : World) :
    Calls Tryz.prog 31 #[.string ⟨#[49, 54, 55, 55, 55, 50, 49, 55]⟩] w fun e w' => e = .returned (.int .i64 8) ∧ w' = w := by
  go_enter Tryz.func31, Tryz.ntmps31
  go_wp2_with fail
  refine (Tryz.strings_HasPrefix _ _ _).mono ?_
  rintro e w' ⟨rfl, hw⟩
  subst hw
  rw [show Lib.hasPrefix (ByteArray.mk #[49, 54, 55, 55, 55, 50, 49, 55]).data.toList (ByteArray.mk #[45]).data.toList = false by decide +kernel]
  go_wp2_with fail
  refine (digits_lit _ 8 _ (by decide) (by decide +kernel)).mono ?_
  rintro e w' ⟨rfl, hw⟩
  subst hw
  go_wp2_with fail
  go_ret
  exact ⟨rfl, rfl⟩
theorem whole_f {B : Nat} (w : World) (hG : Good B w) (hB : B ≤ w.heap.size) :
    Calls Tryz.prog 30 #[.int .u8 5, .string ⟨#[50, 46, 53, 48, 101, 49]⟩] w fun e w' => e = .returned (.tuple #[.int .u64 25, .int .i64 0]) ∧ Below B w w' := by
  go_enter Tryz.func30, Tryz.ntmps30
  go_wp2_with fail
  refine (sort_5 _).mono ?_
  rintro e w2 ⟨rfl, hw⟩
  subst hw
  go_wp2_with fail
  refine (num_f _).mono ?_
  rintro e w2 ⟨rfl, hw⟩
  subst hw
  go_wp2_with fail
  refine (cutPrefix_lit _ _ ⟨#[50, 46, 53, 48, 101, 49]⟩ false _ (by decide +kernel) (by decide +kernel)).mono ?_
  rintro e w2 ⟨rfl, hw⟩
  subst hw
  go_wp2_with fail
  refine (indexAny_lit _ 4 _ hB (by decide) (by decide +kernel) (by decide +kernel)).mono ?_
  rintro e w1 ⟨rfl, hb1⟩
  go_wp2_with fail
  refine (exponent_lit _ 1 _ (Nat.le_trans hB hb1.size) (by decide) (by decide +kernel) (by decide) (by decide)).mono ?_
  rintro e w2 ⟨rfl, hb2⟩
  go_wp2_with fail
  refine (cut_lit _ ⟨#[50]⟩ ⟨#[53, 48]⟩ true _ (hG.below (hb1.trans hb2)) (by decide) (by decide +kernel)).mono ?_
  rintro e w3 ⟨rfl, hb3⟩
  go_wp2_with fail
  refine (trimLeft_lit _ ⟨#[50, 53, 48]⟩ _ (by decide +kernel)).mono ?_
  rintro e w4 ⟨rfl, hw⟩
  rw [hw]
  go_wp2_with fail
  refine (trimRight_lit _ ⟨#[50, 53]⟩ _ (by decide) (by decide +kernel)).mono ?_
  rintro e w4 ⟨rfl, hw⟩
  rw [hw]
  go_wp2_with fail
  refine (Tryz.strings_Repeat_zero _ _).mono ?_
  rintro e w4 ⟨rfl, hw⟩
  rw [hw]
  go_wp2_with fail
  refine (fit_lit _ 25 true _ (Nat.le_trans hB ((hb1.trans hb2).trans hb3).size) (by decide) (by decide +kernel) (by decide) fits_5b).mono ?_
  rintro e w4 ⟨rfl, hb⟩
  go_wp2_with fail
  go_ret2
  exact ⟨rfl, ((hb1.trans hb2).trans hb3).trans hb⟩
end Go.Proofs.YtdfodfflkmcgpaaGreatDoor
