/- strconv.FormatUint at base 10, strconv.FormatInt at base 10, nums.Show of whole kinds and of truth. -/
import Derived.Test.YtdfodfflkmcgpaaGreatDoorZQf
import Derived.Lib.ItoaMem
import Derived.Lib.AppendIntMem
import Derived.Test.YtdfodfflkmcgpaaGreatDoorZC4
import Derived.Test.YtdfodfflkmcgpaaGreatDoorZS
import Derived.Test.YtdfodfflkmcgpaaGreatDoorZE
namespace Go.Proofs.YtdfodfflkmcgpaaGreatDoor
open Go.RowKit Go.Sort Go.Lib
set_option linter.unusedVariables false
set_option maxHeartbeats 1600000
set_option maxRecDepth 100000
theorem fmtUint_in {B : Nat} (u : Nat) (hu64 : u < 18446744073709551616) (w : World) (hB : B ≤ w.heap.size) (htab : Lib.TabIs Tryz.prog w "internal/strconv.uint64pow10" .u64 Lib.pow10Tab) :
    Calls Tryz.prog 78 #[.int .u64 u, .int .i64 10] w fun e w' => e = .returned (.string (strL (Lib.decDigits u))) ∧ Below B w w' := by
  by_cases hs : u < 100
  · go_enter Tryz.func78, Tryz.ntmps78
    go_wp2_with fail
    refine (Tryz.internal_strconv_small u hs _).mono ?_
    rintro e w' ⟨rfl, hw⟩
    subst hw
    go_wp2_with fail
    go_ret
    exact ⟨rfl, Below.refl _ _⟩
  · have hu1 : 1 ≤ u := by omega
    have hnd20 : Lib.nDigits u ≤ 20 := by have := Lib.numDigits_eq u hu1 hu64; split at this <;> omega
    have hal : Tryz.prog.arrayLen 128 = 24 := by simp [Program.arrayLen, Tryz.underlying128]
    have hsl : ∀ W, (Instr.sliceAt 128 (.pointer (some ⟨w.heap.size, 0, none⟩)) none (some (.int .i64 (Lib.nDigits u : Int))) none).run Tryz.prog W = .ok (.slice (some ⟨w.heap.size, 0, none⟩) (Lib.nDigits u) 24) W := fun W => by
      rw [run_sliceAt_array_h W 128 ⟨w.heap.size, 0, none⟩ (by simp [Program.arrayLen, Program.elem, Tryz.underlying128]) .i64 (Lib.nDigits u : Int) (by omega) (by rw [hal]; omega)]
      go_simp
    have hH0 := Lib.holds_zero0 w 128 (Lib.nDigits u) (by omega)
    have hfmt := Tryz.internal_strconv_formatBase10 w.heap.size 0 24 u (Array.replicate (Lib.nDigits u) 0) (w.alloc (.cells Lib.zeros24 128)) hH0 (by rw [Array.size_replicate]; exact Lib.lt_pow_nDigits u) hu64 (by rw [Array.size_replicate]; omega)
    rw [Array.size_replicate] at hfmt
    have HH0 := Lib.hid hH0
    have iu : (100 : Int) ≤ (u : Int) := by omega
    have HF := Lib.hid hfmt
    have hndp := fun w h => Tryz.internal_strconv_numDigits u hu1 hu64 w h
    have HN := Lib.hid hndp
    clear hH0 hal hfmt hndp
    go_enter Tryz.func78, Tryz.ntmps78
    go_wp2_with fail
    refine (HN.out _ (Lib.tabIs_alloc htab _)).mono ?_
    rintro e w' ⟨rfl, hw⟩
    subst hw
    go_wp2_with fail
    refine HF.out.mono ?_
    rintro e w' ⟨rfl, k, v', dk, rfl, hF⟩
    have hcv : (convert 43 9 (.slice (some ⟨w.heap.size, 0, none⟩) (Lib.nDigits u) 24)).run Tryz.prog ((putRow (fun (b : UInt8) => Value.int .u8 (b.toNat : Int)) (w.alloc (.cells Lib.zeros24 128)) w.heap.size 0 dk).drewN k) = .ok (.string ⟨(Lib.decDigits u).toArray⟩) ((putRow (fun (b : UInt8) => Value.int .u8 (b.toNat : Int)) (w.alloc (.cells Lib.zeros24 128)) w.heap.size 0 dk).drewN k) := by
      have h := run_convert_bytes_back (P := Tryz.prog) ((putRow (fun (b : UInt8) => Value.int .u8 (b.toNat : Int)) (w.alloc (.cells Lib.zeros24 128)) w.heap.size 0 dk).drewN k) 43 9 5 ⟨w.heap.size, 0, none⟩ 24 (Lib.decDigits u) Tryz.underlying43 Tryz.underlying5 Tryz.underlying9 (fun j hj => by
        rw [Lib.row_is_numeral hF j hj, Lib.add_plain, World.cell?_drewN]
        exact cell?_putRow (fun (b : UInt8) => Value.int .u8 (b.toNat : Int)) _ w.heap.size 0 _ dk HH0.out (by rw [hF.size, Array.size_replicate]) j (by rw [hF.size]; rw [Lib.decDigits_length] at hj; exact hj))
      rw [Lib.decDigits_length] at h
      exact h
    obtain ⟨os, eo⟩ := Lib.fin_at w (.cells Lib.zeros24 128) dk k 0
    have hbel : Below B w ((putRow (fun (b : UInt8) => Value.int .u8 (b.toNat : Int)) (w.alloc (.cells Lib.zeros24 128)) w.heap.size 0 dk).drewN k) := by rw [eo]; exact Lib.below_grow B w hB k os
    generalize (putRow (fun (b : UInt8) => Value.int .u8 (b.toNat : Int)) (w.alloc (.cells Lib.zeros24 128)) w.heap.size 0 dk).drewN k = W2 at hcv hbel ⊢
    clear eo HH0 HF HN
    go_wp2_with fail
    go_ret
    exact ⟨rfl, hbel⟩
theorem fmtUint_pub {B : Nat} (u : Nat) (hu64 : u < 18446744073709551616) (w : World) (hG : Good B w) (hB : B ≤ w.heap.size) :
    Calls Tryz.prog 43 #[.int .u64 u, .int .i64 10] w fun e w' => e = .returned (.string (strL (Lib.decDigits u))) ∧ Below B w w' := by
  have h := fmtUint_in u hu64 w hB hG.u64p
  have H := Lib.hid h
  clear h
  go_enter Tryz.func43, Tryz.ntmps43
  go_wp2_with fail
  refine H.out.mono ?_
  rintro e w1 ⟨rfl, hb⟩
  go_wp2_with fail
  go_ret
  exact ⟨rfl, hb⟩
theorem fmtInt_pub {B : Nat} (n : Int) (h0 : -9223372036854775808 ≤ n) (h1 : n ≤ 9223372036854775807) (w : World) (hG : Good B w) (hB : B ≤ w.heap.size) :
    Calls Tryz.prog 39 #[.int .i64 n, .int .i64 10] w fun e w' => e = .returned (.string (strL (Lib.itoa n))) ∧ Below B w w' := by
  refine (Tryz.strconv_FormatInt_10 n h0 h1 w hG.u64p).mono ?_
  rintro e w' ⟨rfl, k, os, rfl⟩
  exact ⟨rfl, Lib.below_grow B w hB k os⟩
/-- the bits as an int64. -/
def sgnV (v : Int) : Int := if v < 9223372036854775808 then v else v - 18446744073709551616
theorem wrap_sgnV (v : Int) (h0 : 0 ≤ v) (h1 : v < 18446744073709551616) : wrap64 v = sgnV v := by
  unfold sgnV wrap64
  split <;> omega
/-- nums.Show of a whole kind. -/
theorem show_signed {B : Nat} (k v : Int) (w : World) (hG : Good B w) (hB : B ≤ w.heap.size) (h0 : 0 ≤ v) (h1 : v < 18446744073709551616) (hf : fitsN k v = true) (hk : sortN k = 2 ∨ sortN k = 3) :
    Calls Tryz.prog 18 #[.int .u8 k, .int .u64 v] w fun e w' => e = .returned (.string (strL (Lib.itoa (sgnV v)))) ∧ Below B w w' := by
  have hfits := fun w => fits_any k v w h0 h1
  rw [hf] at hfits
  have hsort := fun w => sort_any k w
  obtain ⟨s, hse⟩ : ∃ s, s = sortN k := ⟨_, rfl⟩
  rw [← hse] at hsort hk
  have HS := Lib.hid hsort
  have HF := Lib.hid hfits
  have hw := wrap_sgnV v h0 h1
  obtain ⟨n, hn⟩ : ∃ n, n = sgnV v := ⟨_, rfl⟩
  rw [← hn] at hw ⊢
  have hnb : -9223372036854775808 ≤ n ∧ n ≤ 9223372036854775807 := by rw [hn]; unfold sgnV; split <;> omega
  have hfmt := fmtInt_pub n hnb.1 hnb.2 w hG hB
  have HM := Lib.hid hfmt
  clear hfits hsort hse hn hfmt hf
  rcases hk with rfl | rfl
  · go_enter Tryz.func18, Tryz.ntmps18
    go_wp2_with fail
    refine (HF.out _).mono ?_
    rintro e w1 ⟨rfl, hw1⟩
    subst hw1
    go_wp2_with fail
    refine (HS.out _).mono ?_
    rintro e w2 ⟨rfl, hw2⟩
    subst hw2
    go_wp2_with fail
    refine HM.out.mono ?_
    rintro e w3 ⟨rfl, hb⟩
    go_wp2_with fail
    go_ret
    exact ⟨rfl, hb⟩
  · go_enter Tryz.func18, Tryz.ntmps18
    go_wp2_with fail
    refine (HF.out _).mono ?_
    rintro e w1 ⟨rfl, hw1⟩
    subst hw1
    go_wp2_with fail
    refine (HS.out _).mono ?_
    rintro e w2 ⟨rfl, hw2⟩
    subst hw2
    go_wp2_with fail
    refine HM.out.mono ?_
    rintro e w3 ⟨rfl, hb⟩
    go_wp2_with fail
    go_ret
    exact ⟨rfl, hb⟩
theorem show_unsigned {B : Nat} (k : Int) (v : Nat) (w : World) (hG : Good B w) (hB : B ≤ w.heap.size) (h1 : v < 18446744073709551616) (hf : fitsN k v = true) (hk : sortN k = 4 ∨ sortN k = 5) :
    Calls Tryz.prog 18 #[.int .u8 k, .int .u64 v] w fun e w' => e = .returned (.string (strL (Lib.decDigits v))) ∧ Below B w w' := by
  have hfits := fun w => fits_any k v w (by omega) (by omega)
  rw [hf] at hfits
  have hsort := fun w => sort_any k w
  obtain ⟨s, hse⟩ : ∃ s, s = sortN k := ⟨_, rfl⟩
  rw [← hse] at hsort hk
  have HS := Lib.hid hsort
  have HF := Lib.hid hfits
  have hfmt := fmtUint_pub v h1 w hG hB
  have HM := Lib.hid hfmt
  clear hfits hsort hse hfmt hf
  rcases hk with rfl | rfl
  · go_enter Tryz.func18, Tryz.ntmps18
    go_wp2_with fail
    refine (HF.out _).mono ?_
    rintro e w1 ⟨rfl, hw1⟩
    subst hw1
    go_wp2_with fail
    refine (HS.out _).mono ?_
    rintro e w2 ⟨rfl, hw2⟩
    subst hw2
    go_wp2_with fail
    refine HM.out.mono ?_
    rintro e w3 ⟨rfl, hb⟩
    go_wp2_with fail
    go_ret
    exact ⟨rfl, hb⟩
  · go_enter Tryz.func18, Tryz.ntmps18
    go_wp2_with fail
    refine (HF.out _).mono ?_
    rintro e w1 ⟨rfl, hw1⟩
    subst hw1
    go_wp2_with fail
    refine (HS.out _).mono ?_
    rintro e w2 ⟨rfl, hw2⟩
    subst hw2
    go_wp2_with fail
    refine HM.out.mono ?_
    rintro e w3 ⟨rfl, hb⟩
    go_wp2_with fail
    go_ret
    exact ⟨rfl, hb⟩
/-- of what does not fit nothing is shown. -/
theorem show_none {B : Nat} (k v : Int) (w : World) (h0 : 0 ≤ v) (h1 : v < 18446744073709551616) (hf : fitsN k v = false) :
    Calls Tryz.prog 18 #[.int .u8 k, .int .u64 v] w fun e w' => e = .returned (.string (strL [])) ∧ Below B w w' := by
  have hfits := fun w => fits_any k v w h0 h1
  rw [hf] at hfits
  have HF := Lib.hid hfits
  clear hfits hf
  go_enter Tryz.func18, Tryz.ntmps18
  go_wp2_with fail
  refine (HF.out _).mono ?_
  rintro e w1 ⟨rfl, hw1⟩
  subst hw1
  go_wp2_with fail
  go_ret
  exact ⟨rfl, Below.refl _ _⟩
/-- truth. -/
theorem show_truth {B : Nat} (b : Bool) (w : World) :
    Calls Tryz.prog 18 #[.int .u8 8, .int .u64 (if b then 1 else 0)] w fun e w' => e = .returned (.string (if b then ⟨#[116, 114, 117, 101]⟩ else ⟨#[102, 97, 108, 115, 101]⟩)) ∧ Below B w w' := by
  cases b
  · have hfits := fun w => fits_any 8 0 w (by omega) (by omega)
    rw [show fitsN 8 0 = true by decide] at hfits
    have HF := Lib.hid hfits
    clear hfits
    show Calls Tryz.prog 18 #[.int .u8 8, .int .u64 0] w _
    go_enter Tryz.func18, Tryz.ntmps18
    go_wp2_with fail
    refine (HF.out _).mono ?_
    rintro e w1 ⟨rfl, hw1⟩
    subst hw1
    go_wp2_with fail
    refine (sort_8 _).mono ?_
    rintro e w2 ⟨rfl, hw2⟩
    subst hw2
    go_wp2_with fail
    refine (Tryz.strconv_FormatBool false _).mono ?_
    rintro e w3 ⟨rfl, hw3⟩
    subst hw3
    go_wp2_with fail
    go_ret
    exact ⟨rfl, Below.refl _ _⟩
  · have hfits := fun w => fits_any 8 1 w (by omega) (by omega)
    rw [show fitsN 8 1 = true by decide] at hfits
    have HF := Lib.hid hfits
    clear hfits
    show Calls Tryz.prog 18 #[.int .u8 8, .int .u64 1] w _
    go_enter Tryz.func18, Tryz.ntmps18
    go_wp2_with fail
    refine (HF.out _).mono ?_
    rintro e w1 ⟨rfl, hw1⟩
    subst hw1
    go_wp2_with fail
    refine (sort_8 _).mono ?_
    rintro e w2 ⟨rfl, hw2⟩
    subst hw2
    go_wp2_with fail
    refine (Tryz.strconv_FormatBool true _).mono ?_
    rintro e w3 ⟨rfl, hw3⟩
    subst hw3
    go_wp2_with fail
    go_ret
    exact ⟨rfl, Below.refl _ _⟩
end Go.Proofs.YtdfodfflkmcgpaaGreatDoor
/- Texts of whole numbers: what Read and Whole come to. Of lists alone. -/
namespace Go.Proofs.YtdfodfflkmcgpaaGreatDoor
open Go.RowKit Go.Sort
set_option linter.unusedVariables false
set_option maxRecDepth 100000
def intL (neg : Bool) (N : Nat) : List UInt8 := (if neg then [45] else []) ++ Lib.decDigits N
theorem intL_num (neg : Bool) (N : Nat) : NumText (intL neg N) neg (Lib.decDigits N) [] false false 0 [] false [] := by
  obtain ⟨x1, x2, x3⟩ := dec_all N
  refine ⟨?_, x1, fun c h => (by cases h), x3, fun _ => rfl, fun h => (by cases h), fun h => (by cases h), fun h => (by cases h), fun _ => rfl⟩
  unfold intL ptText
  simp
theorem dec0 : Lib.decDigits 0 = [48] := by rw [Lib.decDigits, dif_pos (by omega)]; rfl
theorem dec_front (N : Nat) : (Lib.decDigits N).length = 1 ∨ (Lib.decDigits N)[0]? ≠ some 48 := by
  rcases Nat.eq_zero_or_pos N with rfl | h
  · left; rw [dec0]; rfl
  · right
    intro h2
    exact dec_first N h 48 h2 rfl
theorem intL_itoa (n : Int) : Lib.itoa n = intL (decide (n < 0)) n.natAbs := by
  unfold Lib.itoa intL
  by_cases h : n < 0
  · rw [if_pos h, if_pos (by simp [h])]; rfl
  · rw [if_neg h, if_neg (by simp [h]), show n.natAbs = n.toNat by omega]; rfl
theorem intL_nat (n : Nat) : Lib.decDigits n = intL false n := rfl
theorem digitsN_dec (N : Nat) : digitsN (Lib.decDigits N) = (Lib.decDigits N).length := by
  have := digitsN_app (A := Lib.decDigits N) (B := []) (dec_all N).1 (fun c hc => by cases hc)
  rwa [List.append_nil] at this
theorem intL_trim (neg : Bool) (N : Nat) : Lib.trimPrefix (intL neg N) [45] = Lib.decDigits N ∧ Lib.hasPrefix (intL neg N) [45] = neg := by
  have := (intL_num neg N).trim
  have e : bodyOf (Lib.decDigits N) [] false false 0 [] = Lib.decDigits N := by unfold bodyOf ptText; simp
  rw [e] at this
  exact this
theorem intL_len {neg : Bool} {N : Nat} (h : N < 18446744073709551616) : (intL neg N).length ≤ 21 := by
  have := Lib.nDigits_le20 N h
  unfold intL
  rw [List.length_append, Lib.decDigits_length]
  cases neg <;> simp <;> omega
theorem readN_intL (k : Int) (neg : Bool) (N : Nat) (h : neg = true → 0 < N) : readN k (intL neg N) = outN (fitN k neg N) := by
  obtain ⟨t1, t2⟩ := intL_trim neg N
  obtain ⟨x1, x2, x3⟩ := dec_all N
  unfold readN
  rw [t1, t2, x2, if_pos]
  unfold intForm
  rw [t1, digitsN_dec]
  have e1 : (Lib.decDigits N).isEmpty = false := by
    cases hh : Lib.decDigits N with
    | nil => exact absurd hh x3
    | cons a b => rfl
  rw [e1]
  simp only [Bool.not_false, Bool.true_and, beq_self_eq_true, Bool.not_eq_true', Bool.and_eq_false_iff, decide_eq_false_iff_not]
  rcases Nat.eq_zero_or_pos N with h0 | h0
  · right
    subst h0
    cases neg with
    | true => exact absurd (h rfl) (by omega)
    | false => unfold intL; rw [dec0]; rfl
  · left
    intro h2
    exact dec_first N h0 48 h2 rfl
theorem wholeV_intL (k : Int) (neg : Bool) (N : Nat) (hN : N < 18446744073709551616) (h0 : N = 0 → outN (fitN k neg N) = .tuple #[.int .u64 0, .int .i64 0]) : wholeV k neg (Lib.decDigits N ++ []) (valP [] false false []) = outN (fitN k neg N) := by
  obtain ⟨x1, x2, x3⟩ := dec_all N
  rw [List.append_nil]
  have hp : valP [] false false [] = 0 := rfl
  rw [hp]
  unfold wholeV
  rcases Nat.eq_zero_or_pos N with hz | hz
  · rw [h0 hz]
    subst hz
    rw [dec0]
    rfl
  · have hd : (Lib.decDigits N).dropWhile (· == 48) = Lib.decDigits N := by
      cases hh : Lib.decDigits N with
      | nil => exact absurd hh x3
      | cons a b =>
        have ha := dec_first N hz a (by rw [hh]; rfl)
        rw [List.dropWhile_cons_of_neg (by simp [ha])]
    rw [hd, if_neg x3]
    have hl := trimR_len (Lib.decDigits N)
    have hle := trimR_le (Lib.decDigits N)
    have hn20 := Lib.nDigits_le20 N hN
    rw [← Lib.decDigits_length] at hn20
    have e : (0 + (((Lib.decDigits N).length : Int) - (trimR (Lib.decDigits N)).length)).toNat = (Lib.decDigits N).length - (trimR (Lib.decDigits N)).length := by omega
    rw [if_neg (by omega), e, ← hl, x2]
/-- the bits that fit, signed. -/
theorem fit_signed {k v : Int} (h0 : 0 ≤ v) (h1 : v < 18446744073709551616) (hf : fitsN k v = true) (hk : sortN k = 2 ∨ sortN k = 3) : outN (fitN k (decide (sgnV v < 0)) (sgnV v).natAbs) = .tuple #[.int .u64 v, .int .i64 0] ∧ (sgnV v).natAbs < 18446744073709551616 ∧ (decide (sgnV v < 0) = true → 0 < (sgnV v).natAbs) := by
  unfold sgnV
  by_cases hv : v < 9223372036854775808
  · rw [if_pos hv, decide_eq_false (by omega)]
    refine ⟨?_, by omega, fun h => by cases h⟩
    unfold fitN
    have e : ((v.natAbs : Nat) : Int) = v := by omega
    rw [if_neg (by omega), if_neg (by simp), if_neg (by omega)]
    simp only [Bool.false_eq_true, if_false, e, hf, if_true]
    rfl
  · rw [if_neg hv, decide_eq_true (by omega)]
    refine ⟨?_, by omega, fun _ => by omega⟩
    unfold fitN
    have e : (((18446744073709551616 - (v - 18446744073709551616).natAbs) % 18446744073709551616 : Nat) : Int) = v := by omega
    rw [if_neg (by omega), if_neg (by rw [if_pos hk]; omega), if_neg (by simp)]
    simp only [if_true, e, hf]
    rfl
theorem fit_unsigned {k : Int} {v : Nat} (h1 : v < 18446744073709551616) (hf : fitsN k v = true) (hk : sortN k = 4 ∨ sortN k = 5) : outN (fitN k false v) = .tuple #[.int .u64 (v : Nat), .int .i64 0] := by
  unfold fitN
  rw [if_neg (by omega), if_neg (by simp), if_neg (by omega)]
  simp only [Bool.false_eq_true, if_false, hf, if_true]
  rfl
end Go.Proofs.YtdfodfflkmcgpaaGreatDoor
/- NumsBack, walked over what is shown and read. -/
namespace Go.Proofs.YtdfodfflkmcgpaaGreatDoor
open Go.RowKit Go.Sort
set_option linter.unusedVariables false
set_option maxHeartbeats 1600000
set_option maxRecDepth 100000
def nanN (k v : Int) : Bool := (decide (k = 1) && decide (9218868437227405312 < v % 9223372036854775808)) || (decide (k = 2) && decide (2139095040 < v % 2147483648))
theorem nan_any (k v : Int) (w : World) (h0 : 0 ≤ v) (h1 : v < 18446744073709551616) : Calls Tryz.prog 29 #[.int .u8 k, .int .u64 v] w fun e w' => e = .returned (.bool (nanN k v)) ∧ w' = w := by
  by_cases hk1 : k = 1
  · subst hk1
    obtain ⟨m, hm⟩ : ∃ m : Int, v % 9223372036854775808 = m := ⟨_, rfl⟩
    have hr : nanN 1 v = decide (9218868437227405312 < m) := by
      unfold nanN; rw [hm]; simp
    by_cases hb : 9218868437227405312 < m
    · have hr2 : nanN 1 v = true := by rw [hr]; exact decide_eq_true hb
      have HR := Lib.hid hr2
      clear hr hr2
      go_enter Tryz.func29, Tryz.ntmps29
      go_wp2_with fail
      go_ret
      exact ⟨by rw [HR.out]; rfl, rfl⟩
    · have hr2 : nanN 1 v = false := by rw [hr]; exact decide_eq_false hb
      have HR := Lib.hid hr2
      have hb2 : m ≤ 9218868437227405312 := by omega
      clear hr hr2
      go_enter Tryz.func29, Tryz.ntmps29
      go_wp2_with fail
      go_ret
      exact ⟨by rw [HR.out]; rfl, rfl⟩
  · by_cases hk2 : k = 2
    · subst hk2
      obtain ⟨m, hm⟩ : ∃ m : Int, v % 2147483648 = m := ⟨_, rfl⟩
      have hr : nanN 2 v = decide (2139095040 < m) := by
        unfold nanN; rw [hm]; simp
      by_cases hb : 2139095040 < m
      · have hr2 : nanN 2 v = true := by rw [hr]; exact decide_eq_true hb
        have HR := Lib.hid hr2
        clear hr hr2
        go_enter Tryz.func29, Tryz.ntmps29
        go_wp2_with fail
        go_ret
        exact ⟨by rw [HR.out]; rfl, rfl⟩
      · have hr2 : nanN 2 v = false := by rw [hr]; exact decide_eq_false hb
        have HR := Lib.hid hr2
        have hb2 : m ≤ 2139095040 := by omega
        clear hr hr2
        go_enter Tryz.func29, Tryz.ntmps29
        go_wp2_with fail
        go_ret
        exact ⟨by rw [HR.out]; rfl, rfl⟩
    · have hr2 : nanN k v = false := by unfold nanN; rw [decide_eq_false hk1, decide_eq_false hk2]; rfl
      have HR := Lib.hid hr2
      have b1 : (k == 1) = false := by rw [beq_eq_false_iff_ne]; exact hk1
      have b2 : (k == 2) = false := by rw [beq_eq_false_iff_ne]; exact hk2
      clear hr2
      go_enter Tryz.func29, Tryz.ntmps29
      go_wp2_with fail
      go_ret
      exact ⟨by rw [HR.out]; rfl, rfl⟩
/-- of what does not fit nothing is shown. -/
theorem back_none {B : Nat} (k v : Int) (w : World) (hG : Rich B w) (hB : B ≤ w.heap.size) (h0 : 0 ≤ v) (h1 : v < 18446744073709551616) (hf : fitsN k v = false) :
    Calls Tryz.prog 6 #[.int .u8 k, .int .u64 v] w fun e w' => e = .returned (.bool true) ∧ Below B w w' := by
  have hfits := fun w => fits_any k v w h0 h1
  rw [hf] at hfits
  have HF := Lib.hid hfits
  have hsh := fun w => show_none (B := B) k v w h0 h1 hf
  have HS := Lib.hid hsh
  have e0 : (strL []) = ⟨#[]⟩ := rfl
  rw [e0] at HS
  clear hfits hsh hf e0
  go_enter Tryz.func6, Tryz.ntmps6
  go_wp2_with fail
  refine (works_any _ hG.toGood hB).mono ?_
  rintro e w1 ⟨rfl, hb1⟩
  go_wp2_with fail
  refine (HF.out _).mono ?_
  rintro e w2 ⟨rfl, hw⟩
  subst hw
  go_wp2_with fail
  refine (HS.out _).mono ?_
  rintro e w3 ⟨rfl, hb3⟩
  have hb := hb1.trans hb3
  go_wp2_with fail
  go_ret
  exact ⟨rfl, hb⟩
/-- a NaN. -/
theorem back_nan {B : Nat} (k v : Int) (g : Int) (w : World) (hG : Rich B w) (hB : B ≤ w.heap.size) (h0 : 0 ≤ v) (h1 : v < 18446744073709551616) (hf : fitsN k v = true) (hn : nanN k v = true)
   (hS : ∀ w, Rich B w → B ≤ w.heap.size → Calls Tryz.prog 18 #[.int .u8 k, .int .u64 v] w fun e w' => e = .returned (.string ⟨#[78, 97, 78]⟩) ∧ Below B w w')
   (hR : ∀ w, Rich B w → B ≤ w.heap.size → Calls Tryz.prog 28 #[.int .u8 k, .string ⟨#[78, 97, 78]⟩] w fun e w' => e = .returned (.tuple #[.int .u64 g, .int .i64 0]) ∧ Below B w w')
   (hg : g = 9221120237041090560 ∨ g = 2143289344) :
    Calls Tryz.prog 6 #[.int .u8 k, .int .u64 v] w fun e w' => e = .returned (.bool true) ∧ Below B w w' := by
  have hfits := fun w => fits_any k v w h0 h1
  rw [hf] at hfits
  have HF := Lib.hid hfits
  have hnan := fun w => nan_any k v w h0 h1
  rw [hn] at hnan
  have HN := Lib.hid hnan
  have HS := Lib.hid hS
  have HR := Lib.hid hR
  clear hfits hnan hS hR hf hn
  rcases hg with rfl | rfl
  · go_enter Tryz.func6, Tryz.ntmps6
    go_wp2_with fail
    refine (works_any _ hG.toGood hB).mono ?_
    rintro e w1 ⟨rfl, hb1⟩
    go_wp2_with fail
    refine (HF.out _).mono ?_
    rintro e w2 ⟨rfl, hw⟩
    subst hw
    go_wp2_with fail
    refine (HS.out _ (hG.below hb1) (Nat.le_trans hB hb1.size)).mono ?_
    rintro e w3 ⟨rfl, hb3⟩
    have hb := hb1.trans hb3
    go_wp2_with fail
    refine (HR.out _ (hG.below hb) (Nat.le_trans hB hb.size)).mono ?_
    rintro e w4 ⟨rfl, hb4⟩
    have hbb := hb.trans hb4
    go_wp2_with fail
    refine (HN.out _).mono ?_
    rintro e w5 ⟨rfl, hw⟩
    subst hw
    go_wp2_with fail
    go_ret
    exact ⟨rfl, hbb⟩
  · go_enter Tryz.func6, Tryz.ntmps6
    go_wp2_with fail
    refine (works_any _ hG.toGood hB).mono ?_
    rintro e w1 ⟨rfl, hb1⟩
    go_wp2_with fail
    refine (HF.out _).mono ?_
    rintro e w2 ⟨rfl, hw⟩
    subst hw
    go_wp2_with fail
    refine (HS.out _ (hG.below hb1) (Nat.le_trans hB hb1.size)).mono ?_
    rintro e w3 ⟨rfl, hb3⟩
    have hb := hb1.trans hb3
    go_wp2_with fail
    refine (HR.out _ (hG.below hb) (Nat.le_trans hB hb.size)).mono ?_
    rintro e w4 ⟨rfl, hb4⟩
    have hbb := hb.trans hb4
    go_wp2_with fail
    refine (HN.out _).mono ?_
    rintro e w5 ⟨rfl, hw⟩
    subst hw
    go_wp2_with fail
    go_ret
    exact ⟨rfl, hbb⟩
/-- what the number's length is compared with. -/
def NumCase (k : Int) (s : ByteArray) : Prop :=
  k = 8 ∨ (k ≠ 8 ∧ s = ⟨#[73, 110, 102, 105, 110, 105, 116, 121]⟩) ∨ (k ≠ 8 ∧ s = ⟨#[45, 73, 110, 102, 105, 110, 105, 116, 121]⟩) ∨
    (k ≠ 8 ∧ (s.toList == [73, 110, 102, 105, 110, 105, 116, 121]) = false ∧ (s.toList == [45, 73, 110, 102, 105, 110, 105, 116, 121]) = false ∧ numberN s.data.toList = s.size)
theorem back_core {B : Nat} (k v : Int) (s : ByteArray) (w : World) (hG : Rich B w) (hB : B ≤ w.heap.size) (h0 : 0 ≤ v) (h1 : v < 18446744073709551616) (hf : fitsN k v = true) (hn : nanN k v = false) (hs : s.size ≤ 2000)
   (hS : ∀ w, Rich B w → B ≤ w.heap.size → Calls Tryz.prog 18 #[.int .u8 k, .int .u64 v] w fun e w' => e = .returned (.string s) ∧ Below B w w')
   (hR : ∀ w, Rich B w → B ≤ w.heap.size → Calls Tryz.prog 28 #[.int .u8 k, .string s] w fun e w' => e = .returned (.tuple #[.int .u64 v, .int .i64 0]) ∧ Below B w w')
   (hW : ∀ w, Rich B w → B ≤ w.heap.size → Calls Tryz.prog 30 #[.int .u8 k, .string s] w fun e w' => e = .returned (.tuple #[.int .u64 v, .int .i64 0]) ∧ Below B w w')
   (hc : NumCase k s) :
    Calls Tryz.prog 6 #[.int .u8 k, .int .u64 v] w fun e w' => e = .returned (.bool true) ∧ Below B w w' := by
  have hfits := fun w => fits_any k v w h0 h1
  rw [hf] at hfits
  have HF := Lib.hid hfits
  have hnan := fun w => nan_any k v w h0 h1
  rw [hn] at hnan
  have HN := Lib.hid hnan
  have HS := Lib.hid hS
  have HR := Lib.hid hR
  have HW := Lib.hid hW
  obtain ⟨m, hm⟩ : ∃ m, m = numberN s.data.toList := ⟨_, rfl⟩
  have hnum := fun w => number_any s w (by omega)
  rw [← hm] at hnum
  have HM := Lib.hid hnum
  have hvv : (v == v) = true := by simp
  have hc2 : k = 8 ∨ ((k == 8) = false ∧ s = ⟨#[73, 110, 102, 105, 110, 105, 116, 121]⟩) ∨ ((k == 8) = false ∧ s = ⟨#[45, 73, 110, 102, 105, 110, 105, 116, 121]⟩) ∨
    ((k == 8) = false ∧ (s.toList == [73, 110, 102, 105, 110, 105, 116, 121]) = false ∧ (s.toList == [45, 73, 110, 102, 105, 110, 105, 116, 121]) = false ∧ m = s.size) := by
    rcases hc with h | h | h | h
    · exact .inl h
    · exact .inr (.inl ⟨by rw [beq_eq_false_iff_ne]; exact h.1, h.2⟩)
    · exact .inr (.inr (.inl ⟨by rw [beq_eq_false_iff_ne]; exact h.1, h.2⟩))
    · exact .inr (.inr (.inr ⟨by rw [beq_eq_false_iff_ne]; exact h.1, h.2.1, h.2.2.1, by rw [hm]; exact h.2.2.2⟩))
  clear hfits hnan hS hR hW hf hn hc hm hnum
  rcases hc2 with rfl | ⟨k8, rfl⟩ | ⟨k8, rfl⟩ | ⟨k8, n1, n2, rfl⟩
  · go_enter Tryz.func6, Tryz.ntmps6
    go_wp2_with fail
    refine (works_any _ hG.toGood hB).mono ?_
    rintro e w1 ⟨rfl, hb1⟩
    go_wp2_with fail
    refine (HF.out _).mono ?_
    rintro e w2 ⟨rfl, hw⟩
    subst hw
    go_wp2_with fail
    refine (HS.out _ (hG.below hb1) (Nat.le_trans hB hb1.size)).mono ?_
    rintro e w3 ⟨rfl, hb3⟩
    have hb := hb1.trans hb3
    go_wp2_with fail
    refine (HR.out _ (hG.below hb) (Nat.le_trans hB hb.size)).mono ?_
    rintro e w4 ⟨rfl, hb4⟩
    have hbb := hb.trans hb4
    go_wp2_with fail
    refine (HN.out _).mono ?_
    rintro e w5 ⟨rfl, hw⟩
    subst hw
    go_wp2_with fail
    refine (HW.out _ (hG.below hbb) (Nat.le_trans hB hbb.size)).mono ?_
    rintro e w6 ⟨rfl, hb6⟩
    have hbc := hbb.trans hb6
    go_wp2_with fail
    refine (HM.out _).mono ?_
    rintro e w7 ⟨rfl, hw⟩
    subst hw
    go_wp2_with fail
    all_goals (go_ret; exact ⟨rfl, hbc⟩)
  · go_enter Tryz.func6, Tryz.ntmps6
    go_wp2_with fail
    refine (works_any _ hG.toGood hB).mono ?_
    rintro e w1 ⟨rfl, hb1⟩
    go_wp2_with fail
    refine (HF.out _).mono ?_
    rintro e w2 ⟨rfl, hw⟩
    subst hw
    go_wp2_with fail
    refine (HS.out _ (hG.below hb1) (Nat.le_trans hB hb1.size)).mono ?_
    rintro e w3 ⟨rfl, hb3⟩
    have hb := hb1.trans hb3
    go_wp2_with fail
    refine (HR.out _ (hG.below hb) (Nat.le_trans hB hb.size)).mono ?_
    rintro e w4 ⟨rfl, hb4⟩
    have hbb := hb.trans hb4
    go_wp2_with fail
    refine (HN.out _).mono ?_
    rintro e w5 ⟨rfl, hw⟩
    subst hw
    go_wp2_with fail
    refine (HW.out _ (hG.below hbb) (Nat.le_trans hB hbb.size)).mono ?_
    rintro e w6 ⟨rfl, hb6⟩
    have hbc := hbb.trans hb6
    go_wp2_with fail
    refine (HM.out _).mono ?_
    rintro e w7 ⟨rfl, hw⟩
    subst hw
    go_wp2_with fail
    all_goals (go_ret; exact ⟨rfl, hbc⟩)
  · go_enter Tryz.func6, Tryz.ntmps6
    go_wp2_with fail
    refine (works_any _ hG.toGood hB).mono ?_
    rintro e w1 ⟨rfl, hb1⟩
    go_wp2_with fail
    refine (HF.out _).mono ?_
    rintro e w2 ⟨rfl, hw⟩
    subst hw
    go_wp2_with fail
    refine (HS.out _ (hG.below hb1) (Nat.le_trans hB hb1.size)).mono ?_
    rintro e w3 ⟨rfl, hb3⟩
    have hb := hb1.trans hb3
    go_wp2_with fail
    refine (HR.out _ (hG.below hb) (Nat.le_trans hB hb.size)).mono ?_
    rintro e w4 ⟨rfl, hb4⟩
    have hbb := hb.trans hb4
    go_wp2_with fail
    refine (HN.out _).mono ?_
    rintro e w5 ⟨rfl, hw⟩
    subst hw
    go_wp2_with fail
    refine (HW.out _ (hG.below hbb) (Nat.le_trans hB hbb.size)).mono ?_
    rintro e w6 ⟨rfl, hb6⟩
    have hbc := hbb.trans hb6
    go_wp2_with fail
    refine (HM.out _).mono ?_
    rintro e w7 ⟨rfl, hw⟩
    subst hw
    go_wp2_with fail
    all_goals (go_ret; exact ⟨rfl, hbc⟩)
  · go_enter Tryz.func6, Tryz.ntmps6
    go_wp2_with fail
    refine (works_any _ hG.toGood hB).mono ?_
    rintro e w1 ⟨rfl, hb1⟩
    go_wp2_with fail
    refine (HF.out _).mono ?_
    rintro e w2 ⟨rfl, hw⟩
    subst hw
    go_wp2_with fail
    refine (HS.out _ (hG.below hb1) (Nat.le_trans hB hb1.size)).mono ?_
    rintro e w3 ⟨rfl, hb3⟩
    have hb := hb1.trans hb3
    go_wp2_with fail
    refine (HR.out _ (hG.below hb) (Nat.le_trans hB hb.size)).mono ?_
    rintro e w4 ⟨rfl, hb4⟩
    have hbb := hb.trans hb4
    go_wp2_with fail
    refine (HN.out _).mono ?_
    rintro e w5 ⟨rfl, hw⟩
    subst hw
    go_wp2_with fail
    refine (HW.out _ (hG.below hbb) (Nat.le_trans hB hbb.size)).mono ?_
    rintro e w6 ⟨rfl, hb6⟩
    have hbc := hbb.trans hb6
    go_wp2_with fail
    refine (HM.out _).mono ?_
    rintro e w7 ⟨rfl, hw⟩
    subst hw
    go_wp2_with fail
    all_goals (go_ret; exact ⟨rfl, hbc⟩)
end Go.Proofs.YtdfodfflkmcgpaaGreatDoor
/- Texts of truth; NaN and the infinities, shown and read. -/
namespace Go.Proofs.YtdfodfflkmcgpaaGreatDoor
open Go.RowKit Go.Sort Ieee
set_option linter.unusedVariables false
set_option maxHeartbeats 1600000
set_option maxRecDepth 100000
theorem read_true (w : World) : Calls Tryz.prog 28 #[.int .u8 8, .string ⟨#[116, 114, 117, 101]⟩] w fun e w' => e = .returned (.tuple #[.int .u64 1, .int .i64 0]) ∧ w' = w := by
  go_enter Tryz.func28, Tryz.ntmps28
  go_wp2_with fail
  refine (sort_8 _).mono ?_
  rintro e w2 ⟨rfl, hw⟩
  subst hw
  go_wp2_with fail
  go_ret2
  exact ⟨rfl, rfl⟩
theorem read_false (w : World) : Calls Tryz.prog 28 #[.int .u8 8, .string ⟨#[102, 97, 108, 115, 101]⟩] w fun e w' => e = .returned (.tuple #[.int .u64 0, .int .i64 0]) ∧ w' = w := by
  go_enter Tryz.func28, Tryz.ntmps28
  go_wp2_with fail
  refine (sort_8 _).mono ?_
  rintro e w2 ⟨rfl, hw⟩
  subst hw
  go_wp2_with fail
  go_ret2
  exact ⟨rfl, rfl⟩
/-- Whole of the kinds that are no integers: Read. -/
theorem whole_read {B : Nat} (k : Int) (s : ByteArray) (y z : Int) (w : World) (hk : sortN k = 0 ∨ sortN k = 1 ∨ sortN k = 6 ∨ sortN k = 7)
   (h : ∀ w', w' = w → Calls Tryz.prog 28 #[.int .u8 k, .string s] w' fun e w'' => e = .returned (.tuple #[.int .u64 y, .int .i64 z]) ∧ Below B w' w'') :
    Calls Tryz.prog 30 #[.int .u8 k, .string s] w fun e w' => e = .returned (.tuple #[.int .u64 y, .int .i64 z]) ∧ Below B w w' := by
  have hsort := fun w => sort_any k w
  obtain ⟨sn, hse⟩ : ∃ sn, sn = sortN k := ⟨_, rfl⟩
  rw [← hse] at hsort hk
  have HS := Lib.hid hsort
  have H := Lib.hid h
  clear h hsort hse
  rcases hk with rfl | rfl | rfl | rfl
  all_goals
    go_enter Tryz.func30, Tryz.ntmps30
    go_wp2_with fail
    refine (HS.out _).mono ?_
    rintro e w2 ⟨rfl, hw⟩
    subst hw
    go_wp2_with fail
    refine (H.out _ rfl).mono ?_
    rintro e w3 ⟨rfl, hb⟩
    go_wp2_with fail
    go_ret2
    exact ⟨rfl, hb⟩
theorem inf_pos (w : World) : Calls Tryz.prog 85 #[.int .i64 1] w fun e w' => e = .returned (.float .f64 9218868437227405312) ∧ w' = w := by
  have h42 : ∀ w, (callFunc 42 #[.int .u64 9218868437227405312]).run Tryz.prog w = .ok (.value (.float .f64 9218868437227405312)) w := run_42 9218868437227405312
  go_enter Tryz.func85, Tryz.ntmps85
  go_wp2_with fail
  go_ret
  exact ⟨rfl, rfl⟩
theorem inf_neg (w : World) : Calls Tryz.prog 85 #[.int .i64 (-1)] w fun e w' => e = .returned (.float .f64 18442240474082181120) ∧ w' = w := by
  have h42 : ∀ w, (callFunc 42 #[.int .u64 18442240474082181120]).run Tryz.prog w = .ok (.value (.float .f64 18442240474082181120)) w := run_42 18442240474082181120
  go_enter Tryz.func85, Tryz.ntmps85
  go_wp2_with fail
  go_ret
  exact ⟨rfl, rfl⟩
theorem rf_nan64 (w : World) : Calls Tryz.prog 59 #[.string ⟨#[78, 97, 78]⟩, .int .i64 64] w fun e w' => e = .returned (.tuple #[.int .u64 9221120237041090560, .int .i64 0]) ∧ w' = w := by
  go_enter Tryz.func59, Tryz.ntmps59
  go_wp2_with fail
  go_ret2
  exact ⟨rfl, rfl⟩
theorem rf_nan32 (w : World) : Calls Tryz.prog 59 #[.string ⟨#[78, 97, 78]⟩, .int .i64 32] w fun e w' => e = .returned (.tuple #[.int .u64 2143289344, .int .i64 0]) ∧ w' = w := by
  go_enter Tryz.func59, Tryz.ntmps59
  go_wp2_with fail
  go_ret2
  exact ⟨rfl, rfl⟩
def infT (neg : Bool) : ByteArray := if neg then ⟨#[45, 73, 110, 102, 105, 110, 105, 116, 121]⟩ else ⟨#[73, 110, 102, 105, 110, 105, 116, 121]⟩
theorem rf_inf64 (neg : Bool) (w : World) : Calls Tryz.prog 59 #[.string (infT neg), .int .i64 64] w fun e w' => e = .returned (.tuple #[.int .u64 (sgn64 neg + 9218868437227405312 : Nat), .int .i64 0]) ∧ w' = w := by
  have h55 : ∀ x w, (callFunc 55 #[.float .f64 x]).run Tryz.prog w = .ok (.value (.int .u64 x)) w := fun x w => by kernel_rfl
  cases neg
  · show Calls Tryz.prog 59 #[.string ⟨#[73, 110, 102, 105, 110, 105, 116, 121]⟩, .int .i64 64] w _
    go_enter Tryz.func59, Tryz.ntmps59
    go_wp2_with fail
    refine (inf_pos _).mono ?_
    rintro e w2 ⟨rfl, hw⟩
    subst hw
    go_wp2_with fail
    go_ret2
    exact ⟨rfl, rfl⟩
  · show Calls Tryz.prog 59 #[.string ⟨#[45, 73, 110, 102, 105, 110, 105, 116, 121]⟩, .int .i64 64] w _
    go_enter Tryz.func59, Tryz.ntmps59
    go_wp2_with fail
    refine (inf_neg _).mono ?_
    rintro e w2 ⟨rfl, hw⟩
    subst hw
    go_wp2_with fail
    go_ret2
    exact ⟨rfl, rfl⟩
theorem cv_inf (w : World) : (convert 59 60 (.float .f64 9218868437227405312)).run Tryz.prog w = .ok (.float .f32 2139095040) w := by kernel_rfl
theorem cv_ninf (w : World) : (convert 59 60 (.float .f64 18442240474082181120)).run Tryz.prog w = .ok (.float .f32 4286578688) w := by kernel_rfl
theorem rf_inf32 (neg : Bool) (w : World) : Calls Tryz.prog 59 #[.string (infT neg), .int .i64 32] w fun e w' => e = .returned (.tuple #[.int .u64 (sgn32 neg + 2139095040 : Nat), .int .i64 0]) ∧ w' = w := by
  have h1 := cv_inf
  have h2 := cv_ninf
  have h56a : ∀ w, (callFunc 56 #[.float .f32 2139095040]).run Tryz.prog w = .ok (.value (.int .u32 2139095040)) w := fun w => by kernel_rfl
  have h56b : ∀ w, (callFunc 56 #[.float .f32 4286578688]).run Tryz.prog w = .ok (.value (.int .u32 4286578688)) w := fun w => by kernel_rfl
  cases neg
  · show Calls Tryz.prog 59 #[.string ⟨#[73, 110, 102, 105, 110, 105, 116, 121]⟩, .int .i64 32] w _
    go_enter Tryz.func59, Tryz.ntmps59
    go_wp2_with fail
    refine (inf_pos _).mono ?_
    rintro e w2 ⟨rfl, hw⟩
    subst hw
    go_wp2_with fail
    go_ret2
    exact ⟨rfl, rfl⟩
  · show Calls Tryz.prog 59 #[.string ⟨#[45, 73, 110, 102, 105, 110, 105, 116, 121]⟩, .int .i64 32] w _
    go_enter Tryz.func59, Tryz.ntmps59
    go_wp2_with fail
    refine (inf_neg _).mono ?_
    rintro e w2 ⟨rfl, hw⟩
    subst hw
    go_wp2_with fail
    go_ret2
    exact ⟨rfl, rfl⟩
/-- Read of a floating kind, over readFloating. -/
theorem read_fl64 {B : Nat} (s : ByteArray) (y z : Int) (w : World) (h : ∀ w', w' = w → Calls Tryz.prog 59 #[.string s, .int .i64 64] w' fun e w'' => e = .returned (.tuple #[.int .u64 y, .int .i64 z]) ∧ Below B w' w'') :
    Calls Tryz.prog 28 #[.int .u8 1, .string s] w fun e w' => e = .returned (.tuple #[.int .u64 y, .int .i64 z]) ∧ Below B w w' := by
  have H := Lib.hid h
  clear h
  go_enter Tryz.func28, Tryz.ntmps28
  go_wp2_with fail
  refine (sort_1 _).mono ?_
  rintro e w2 ⟨rfl, hw⟩
  subst hw
  go_wp2_with fail
  refine (H.out _ rfl).mono ?_
  rintro e w3 ⟨rfl, hb⟩
  go_wp2_with fail
  go_ret2
  exact ⟨rfl, hb⟩
theorem read_fl32 {B : Nat} (s : ByteArray) (y z : Int) (w : World) (h : ∀ w', w' = w → Calls Tryz.prog 59 #[.string s, .int .i64 32] w' fun e w'' => e = .returned (.tuple #[.int .u64 y, .int .i64 z]) ∧ Below B w' w'') :
    Calls Tryz.prog 28 #[.int .u8 2, .string s] w fun e w' => e = .returned (.tuple #[.int .u64 y, .int .i64 z]) ∧ Below B w w' := by
  have H := Lib.hid h
  clear h
  go_enter Tryz.func28, Tryz.ntmps28
  go_wp2_with fail
  refine (sort_2 _).mono ?_
  rintro e w2 ⟨rfl, hw⟩
  subst hw
  go_wp2_with fail
  refine (H.out _ rfl).mono ?_
  rintro e w3 ⟨rfl, hb⟩
  go_wp2_with fail
  go_ret2
  exact ⟨rfl, hb⟩
/-- Show of a floating kind, over floating. -/
theorem show_fl64 {B : Nat} (v : Nat) (s : ByteArray) (w : World) (h1 : v < 18446744073709551616)
   (h : ∀ w', w' = w → Calls Tryz.prog 40 #[.float .f64 v, .int .i64 64] w' fun e w'' => e = .returned (.string s) ∧ Below B w' w'') :
    Calls Tryz.prog 18 #[.int .u8 1, .int .u64 v] w fun e w' => e = .returned (.string s) ∧ Below B w w' := by
  have h42 : ∀ w, (callFunc 42 #[.int .u64 v]).run Tryz.prog w = .ok (.value (.float .f64 v)) w := run_42 v
  have H := Lib.hid h
  clear h
  go_enter Tryz.func18, Tryz.ntmps18
  go_wp2_with fail
  refine (fits_1 _ _).mono ?_
  rintro e w' ⟨rfl, hw⟩
  subst hw
  go_wp2_with fail
  refine (sort_1 _).mono ?_
  rintro e w' ⟨rfl, hw⟩
  subst hw
  go_wp2_with fail
  refine (H.out _ rfl).mono ?_
  rintro e w' ⟨rfl, hw⟩
  go_wp2_with fail
  go_ret
  exact ⟨rfl, hw⟩
theorem show_fl32 {B : Nat} (v y : Nat) (s : ByteArray) (w w1 : World) (h1 : v < 4294967296) (hb1 : Below B w w1) (hcv : (convert 60 59 (.float .f32 v)).run Tryz.prog w = .ok (.float .f64 y) w1)
   (h : ∀ w', w' = w1 → Calls Tryz.prog 40 #[.float .f64 y, .int .i64 32] w' fun e w'' => e = .returned (.string s) ∧ Below B w' w'') :
    Calls Tryz.prog 18 #[.int .u8 2, .int .u64 v] w fun e w' => e = .returned (.string s) ∧ Below B w w' := by
  have h41 : ∀ w, (callFunc 41 #[.int .u32 v]).run Tryz.prog w = .ok (.value (.float .f32 v)) w := run_41 v
  have hfits := fun w => fits_any 2 v w (by omega) (by omega)
  have hf : fitsN 2 v = true := by
    unfold fitsN
    rw [if_neg (by decide), if_neg (by decide), if_neg (by decide), if_pos (by decide)]
    exact decide_eq_true (by omega)
  rw [hf] at hfits
  have HF := Lib.hid hfits
  have H := Lib.hid h
  clear h hfits hf
  go_enter Tryz.func18, Tryz.ntmps18
  go_wp2_with fail
  refine (HF.out _).mono ?_
  rintro e w' ⟨rfl, hw⟩
  subst hw
  go_wp2_with fail
  refine (sort_2 _).mono ?_
  rintro e w' ⟨rfl, hw⟩
  subst hw
  go_wp2_with fail
  refine (H.out _ rfl).mono ?_
  rintro e w' ⟨rfl, hw⟩
  have hb := hb1.trans hw
  go_wp2_with fail
  go_ret
  exact ⟨rfl, hb⟩
theorem nan_read64 {v : Nat} (h : 9218868437227405312 < v % 9223372036854775808) : ∃ s f, Ieee.double.read v = .nan s f := by
  have e1 : Ieee.double.signWeight = 9223372036854775808 := by decide +kernel
  have e2 : Ieee.double.binade = 4503599627370496 := by decide +kernel
  have e3 : Ieee.double.infRung = 9218868437227405312 := by decide +kernel
  unfold Ieee.Format.read
  rw [e1, e2, e3]
  dsimp only
  rw [if_neg (by omega), if_neg (by omega), if_neg (by omega)]
  exact ⟨_, _, rfl⟩
theorem nan_read32 {v : Nat} (h : 2139095040 < v % 2147483648) : ∃ s f, Ieee.single.read v = .nan s f := by
  have e1 : Ieee.single.signWeight = 2147483648 := by decide +kernel
  have e2 : Ieee.single.binade = 8388608 := by decide +kernel
  have e3 : Ieee.single.infRung = 2139095040 := by decide +kernel
  unfold Ieee.Format.read
  rw [e1, e2, e3]
  dsimp only
  rw [if_neg (by omega), if_neg (by omega), if_neg (by omega)]
  exact ⟨_, _, rfl⟩
theorem order_nan {v : Nat} (h : 9218868437227405312 < v % 9223372036854775808) : (FloatKind.f64.format.order v v != some Ordering.eq) = true := by
  obtain ⟨s, f, hr⟩ := nan_read64 h
  have : FloatKind.f64.format.order v v = none := by
    show (Ieee.double.read v).order (Ieee.double.read v) = none
    rw [hr]; rfl
  rw [this]; rfl
/-- a NaN widened is some NaN. -/
theorem conv_nan {v : Nat} (h : 2139095040 < v % 2147483648) (w : World) : ∃ y, (convert 60 59 (.float .f32 v)).run Tryz.prog w = .ok (.float .f64 y) w.drew ∧ 9218868437227405312 < y % 9223372036854775808 := by
  obtain ⟨s, f, hr⟩ := nan_read32 h
  have hdec : FloatKind.decode .f32 v = .nan s f := hr
  obtain ⟨y, hy⟩ : ∃ y, y = Question.cut (.nanConv .f64 v) (w.tape w.drawn (.nanConv .f64 v)) := ⟨_, rfl⟩
  have h1 : (Conv.floatToFloat .f32 v .f64).run Tryz.prog w = .ok (.float .f64 y) w.drew := by
    unfold Conv.floatToFloat
    rw [if_neg (by decide), hdec, hy]
    rfl
  refine ⟨y, ?_, ?_⟩
  · have hu : Tryz.prog.underlying 60 = some (.float .f32) := by kernel_rfl
    have hd : Tryz.prog.underlying 59 = some (.float .f64) := by kernel_rfl
    simp [convert, run_underlying hu, run_underlying hd, h1]
  · rw [hy]
    generalize w.tape w.drawn (.nanConv .f64 v) = t
    show 9218868437227405312 < ((t % 2) * 9223372036854775808 + 9218868437227405312 + 1 + (t / 2) % 4503599627370495) % 9223372036854775808
    have hz : (t / 2) % 4503599627370495 < 4503599627370495 := Nat.mod_lt _ (by decide)
    generalize (t / 2) % 4503599627370495 = z at hz
    rcases Nat.mod_two_eq_zero_or_one t with h | h <;> rw [h] <;> omega
theorem nan_show64 {B : Nat} (v : Nat) (w : World) (h1 : v < 18446744073709551616) (h : 9218868437227405312 < v % 9223372036854775808) :
    Calls Tryz.prog 18 #[.int .u8 1, .int .u64 v] w fun e w' => e = .returned (.string ⟨#[78, 97, 78]⟩) ∧ Below B w w' :=
  show_fl64 v _ w h1 fun w' _ => floating_nan v 64 w' (order_nan h)
theorem nan_show32 {B : Nat} (v : Nat) (w : World) (h1 : v < 4294967296) (h : 2139095040 < v % 2147483648) :
    Calls Tryz.prog 18 #[.int .u8 2, .int .u64 v] w fun e w' => e = .returned (.string ⟨#[78, 97, 78]⟩) ∧ Below B w w' := by
  obtain ⟨y, hy, hn⟩ := conv_nan h w
  exact show_fl32 v y _ w w.drew h1 (Below.refl B w).drew hy fun w' _ => floating_nan y 32 w' (order_nan hn)
end Go.Proofs.YtdfodfflkmcgpaaGreatDoor
/- NumsBack at every kind and all bits. -/
namespace Go.Proofs.YtdfodfflkmcgpaaGreatDoor
open Go.RowKit Go.Sort Near Parse
set_option linter.unusedVariables false
set_option maxHeartbeats 1600000
set_option maxRecDepth 100000
def zeroL (neg : Bool) : List UInt8 := (if neg then [45] else []) ++ [48]
theorem floating_zero64 {B : Nat} (neg : Bool) (w : World) (hG : Good B w) (hB : B ≤ w.heap.size) :
    Calls Tryz.prog 40 #[.float .f64 (sgn64 neg), .int .i64 64] w fun e w' => e = .returned (.string (strL (zeroL neg))) ∧ Below B w w' := by
  have hF : ∀ W, Good B W → B ≤ W.heap.size → Calls Tryz.prog 74 #[.float .f64 (sgn64 neg), .int .u8 101, .int .i64 (-1), .int .i64 64] W fun e w' => e = .returned (.string (strOfNums (signOf neg ++ [48, 101, 43, 48, 48]))) ∧ Below B W w' := by
    intro W h1 h2
    refine format_public _ _ _ _ (format64_any _ W h1 h2 _ (by cases neg <;> decide) fun v W2 h3 h4 => ?_)
    refine ftoa64_zero (sgn64 neg) neg v 0 [] W2 h4 (by omega) ?_ ?_ ?_ ?_
    · cases neg <;> decide
    · cases neg <;> decide +kernel
    · cases neg <;> decide +kernel
    · cases neg <;> decide +kernel
  have := floating_zero (sgn64 neg) 64 w hG hB (strOfNums (signOf neg ++ [48, 101, 43, 48, 48])) (by cases neg <;> decide) (by cases neg <;> decide) neg (by cases neg <;> decide +kernel) (by cases neg <;> decide +kernel) (by cases neg <;> decide +kernel) (by cases neg <;> decide +kernel) (Lib.hid hF) (by cases neg <;> rfl)
  exact this
theorem wide_zero (neg : Bool) : floatToFloatBits .f32 (sgn32 neg) .f64 = some (sgn64 neg) := by cases neg <;> decide +kernel
theorem cut_zero (neg : Bool) : floatToFloatBits .f64 (sgn64 neg) .f32 = some (sgn32 neg) := by cases neg <;> decide +kernel
theorem floating_zero32 {B : Nat} (neg : Bool) (w : World) (hG : Good B w) (hB : B ≤ w.heap.size) :
    Calls Tryz.prog 40 #[.float .f64 (sgn64 neg), .int .i64 32] w fun e w' => e = .returned (.string (strL (zeroL neg))) ∧ Below B w w' := by
  have hF : ∀ W, Good B W → B ≤ W.heap.size → Calls Tryz.prog 74 #[.float .f64 (sgn64 neg), .int .u8 101, .int .i64 (-1), .int .i64 32] W fun e w' => e = .returned (.string (strOfNums (signOf neg ++ [48, 101, 43, 48, 48]))) ∧ Below B W w' := by
    intro W h1 h2
    refine format_public _ _ _ _ (format32_any (sgn32 neg) _ W h1 h2 _ (by cases neg <;> decide) (fun w => run_convert_float_float w 59 60 .f64 .f32 _ _ (by kernel_rfl) (by kernel_rfl) (cut_zero neg)) fun v W2 h3 h4 => ?_)
    refine ftoa32_zero (sgn32 neg) neg v 0 [] W2 h4 (by omega) ?_ ?_ ?_ ?_
    · cases neg <;> decide
    · cases neg <;> decide +kernel
    · cases neg <;> decide +kernel
    · cases neg <;> decide +kernel
  have := floating_zero (sgn64 neg) 32 w hG hB (strOfNums (signOf neg ++ [48, 101, 43, 48, 48])) (by cases neg <;> decide) (by cases neg <;> decide) neg (by cases neg <;> decide +kernel) (by cases neg <;> decide +kernel) (by cases neg <;> decide +kernel) (by cases neg <;> decide +kernel) (Lib.hid hF) (by cases neg <;> rfl)
  exact this
theorem zeroL_num (neg : Bool) : NumText (zeroL neg) neg [48] [] false false 0 [] false [] := by
  refine ⟨?_, fun c h => ?_, fun c h => (by cases h), by simp, fun _ => rfl, fun h => (by cases h), fun h => (by cases h), fun h => (by cases h), fun _ => rfl⟩
  · unfold zeroL ptText; simp
  · rw [List.mem_singleton.1 h]; exact isDig48
/-- the infinities shown. -/
theorem inf_show64 {B : Nat} (neg : Bool) (w : World) : Calls Tryz.prog 18 #[.int .u8 1, .int .u64 (sgn64 neg + 9218868437227405312 : Nat)] w fun e w' => e = .returned (.string (infT neg)) ∧ Below B w w' := by
  refine show_fl64 _ _ w (by cases neg <;> decide) fun w' _ => ?_
  cases neg
  · exact floating_inf _ 64 w' (by decide +kernel) (by decide +kernel)
  · exact floating_ninf _ 64 w' (by decide +kernel) (by decide +kernel) (by decide +kernel)
theorem wide_inf2 (neg : Bool) : floatToFloatBits .f32 (sgn32 neg + 2139095040) .f64 = some (sgn64 neg + 9218868437227405312) := by cases neg <;> decide +kernel
theorem inf_show32 {B : Nat} (neg : Bool) (w : World) : Calls Tryz.prog 18 #[.int .u8 2, .int .u64 (sgn32 neg + 2139095040 : Nat)] w fun e w' => e = .returned (.string (infT neg)) ∧ Below B w w' := by
  refine show_fl32 _ (sgn64 neg + 9218868437227405312) _ w w (by cases neg <;> decide) (Below.refl _ _) (run_convert_float_float w 60 59 .f32 .f64 _ _ (by kernel_rfl) (by kernel_rfl) (wide_inf2 neg)) fun w' _ => ?_
  cases neg
  · exact floating_inf _ 32 w' (by decide +kernel) (by decide +kernel)
  · exact floating_ninf _ 32 w' (by decide +kernel) (by decide +kernel) (by decide +kernel)
/-- a reading that ends in one number. -/
theorem Rf.one {inf sg R : Nat} {Q : Nat → Prop} {e : Ending} (h : Rf inf sg Q e) (hR : R < inf) (hu : ∀ x, Q x → x = R) : e = .returned (.tuple #[.int .u64 (sg + R : Nat), .int .i64 0]) := by
  obtain ⟨x, hx, he⟩ := h
  rw [hu x hx] at he
  rw [he, if_pos hR]
theorem reads_one {t L : Nat} {N : Nat} {q : Int} {R x : Nat} (h : ReadsAs t L N q R) (h2 : ReadsAs t L N q x) : x = R :=
  RN.unique (Nat.two_pow_pos t) (Nat.pow_pos (by omega)) h2 h
/-- what is shown of a floating number is read as it. -/
structure Float64 (v : Nat) (l : List UInt8) (neg : Bool) (R : Nat) : Prop where
  val : v = sgn64 neg + R
  lt : R < 9218868437227405312
  num : ∃ W P hasP hasE ec xt eneg X, NumText l neg W P hasP hasE ec xt eneg X ∧ (W.length = 1 ∨ W[0]? ≠ some 48) ∧ truncN (leadDigits (W ++ P)) (leadDigits (W ++ P)).length = false ∧ ∀ x, ReadsAs 52 1074 (valN W P) (valP P hasE eneg X) x → x = R
  len : l.length ≤ 2000
structure Float32 (v : Nat) (l : List UInt8) (neg : Bool) (R : Nat) : Prop where
  val : v = sgn32 neg + R
  lt : R < 2139095040
  num : ∃ W P hasP hasE ec xt eneg X, NumText l neg W P hasP hasE ec xt eneg X ∧ (W.length = 1 ∨ W[0]? ≠ some 48) ∧ truncN (leadDigits (W ++ P)) (leadDigits (W ++ P)).length = false ∧ ∀ x, ReadsAs 23 149 (valN W P) (valP P hasE eneg X) x → x = R
  len : l.length ≤ 2000
theorem laid_len {t L R : Nat} {D : List UInt8} {x : Int} (h : Shown t L R D x) (neg : Bool) : ((if neg then [45] else []) ++ laidL D x).length ≤ 2000 := by
  have := laidL_length D x (by have := h.len; omega) h.lo h.hi
  rw [List.length_append]
  cases neg <;> simp <;> omega
theorem IsNum.reads {t L : Nat} {l : List UInt8} {neg : Bool} {N : Nat} {q : Int} {R : Nat} (h : IsNum l neg N q) (hr : ReadsAs t L N q R) :
    ∃ W P hasP hasE ec xt eneg X, NumText l neg W P hasP hasE ec xt eneg X ∧ (W.length = 1 ∨ W[0]? ≠ some 48) ∧ truncN (leadDigits (W ++ P)) (leadDigits (W ++ P)).length = false ∧ ∀ x, ReadsAs t L (valN W P) (valP P hasE eneg X) x → x = R := by
  obtain ⟨W, P, hasP, hasE, ec, xt, eneg, X, h1, h2, h3, k, h4, h5⟩ := h
  refine ⟨W, P, hasP, hasE, ec, xt, eneg, X, h1, h2, h3, fun x hx => ?_⟩
  rw [h4] at hx
  exact reads_one hr ((reads_shift h5).2 hx)
theorem shown_num64 {v : Nat} {neg : Bool} {R : Nat} {D : List UInt8} {x : Int} (hv : v = sgn64 neg + R) (hR : R < 9218868437227405312) (h : Shown 52 1074 R D x) (hlen : ((if neg then [45] else []) ++ laidL D x).length ≤ 2000) : Float64 v ((if neg then [45] else []) ++ laidL D x) neg R :=
  ⟨hv, hR, (laid_num h neg).reads h.reads, hlen⟩
theorem shown_num32 {v : Nat} {neg : Bool} {R : Nat} {D : List UInt8} {x : Int} (hv : v = sgn32 neg + R) (hR : R < 2139095040) (h : Shown 23 149 R D x) (hlen : ((if neg then [45] else []) ++ laidL D x).length ≤ 2000) : Float32 v ((if neg then [45] else []) ++ laidL D x) neg R :=
  ⟨hv, hR, (laid_num h neg).reads h.reads, hlen⟩
theorem zero_num64 (neg : Bool) : Float64 (sgn64 neg) (zeroL neg) neg 0 := by
  refine ⟨rfl, by omega, ⟨[48], [], false, false, 0, [], false, [], zeroL_num neg, .inl rfl, by decide, fun x hx => ?_⟩, by cases neg <;> decide⟩
  have : valN [48] [] = 0 := by decide
  rw [this] at hx
  exact reads_one (reads_zero 1074 _ (by omega)) hx
theorem zero_num32 (neg : Bool) : Float32 (sgn32 neg) (zeroL neg) neg 0 := by
  refine ⟨rfl, by omega, ⟨[48], [], false, false, 0, [], false, [], zeroL_num neg, .inl rfl, by decide, fun x hx => ?_⟩, by cases neg <;> decide⟩
  have : valN [48] [] = 0 := by decide
  rw [this] at hx
  exact reads_one (reads_zero 149 _ (by omega)) hx
theorem Float64.read {B v : Nat} {l : List UInt8} {neg : Bool} {R : Nat} (h : Float64 v l neg R) (w : World) (hG : Rich B w) (hB : B ≤ w.heap.size) :
    Calls Tryz.prog 28 #[.int .u8 1, .string (strL l)] w fun e w' => e = .returned (.tuple #[.int .u64 (v : Nat), .int .i64 0]) ∧ Below B w w' := by
  obtain ⟨W, P, hasP, hasE, ec, xt, eneg, X, h1, h2, h3, h4⟩ := h.num
  have hl := h.len
  refine (read_num64 h1 h2 w hG hB (by omega) h3).mono fun e w' ⟨he, hb⟩ => ⟨?_, hb⟩
  rw [h.val]
  exact he.one h.lt h4
theorem Float32.read {B v : Nat} {l : List UInt8} {neg : Bool} {R : Nat} (h : Float32 v l neg R) (w : World) (hG : Rich B w) (hB : B ≤ w.heap.size) :
    Calls Tryz.prog 28 #[.int .u8 2, .string (strL l)] w fun e w' => e = .returned (.tuple #[.int .u64 (v : Nat), .int .i64 0]) ∧ Below B w w' := by
  obtain ⟨W, P, hasP, hasE, ec, xt, eneg, X, h1, h2, h3, h4⟩ := h.num
  have hl := h.len
  refine (read_num32 h1 h2 w hG hB (by omega) h3).mono fun e w' ⟨he, hb⟩ => ⟨?_, hb⟩
  rw [h.val]
  exact he.one h.lt h4
theorem num_case {k : Int} {l : List UInt8} {neg : Bool} {W P : List UInt8} {hasP hasE : Bool} {ec : UInt8} {xt : List UInt8} {eneg : Bool} {X : List UInt8} (T : NumText l neg W P hasP hasE ec xt eneg X) (hw : W.length = 1 ∨ W[0]? ≠ some 48) (hk : k ≠ 8) : NumCase k (strL l) := by
  refine .inr (.inr (.inr ⟨hk, ?_, ?_, ?_⟩))
  · rw [beq_eq_false_iff_ne, ByteArray.toList_eq, strL_list]
    intro h
    have := T.first.1
    rw [h] at this
    exact (this 73 rfl).2 rfl
  · rw [beq_eq_false_iff_ne, ByteArray.toList_eq, strL_list]
    intro h
    have := T.first.2
    rw [h] at this
    exact this rfl 73 rfl rfl
  · rw [strL_list, strL_size]
    exact T.number hw
theorem Float64.case {v : Nat} {l : List UInt8} {neg : Bool} {R : Nat} (h : Float64 v l neg R) : NumCase 1 (strL l) := by
  obtain ⟨W, P, hasP, hasE, ec, xt, eneg, X, h1, h2, h3, h4⟩ := h.num
  exact num_case h1 h2 (by decide)
theorem Float32.case {v : Nat} {l : List UInt8} {neg : Bool} {R : Nat} (h : Float32 v l neg R) : NumCase 2 (strL l) := by
  obtain ⟨W, P, hasP, hasE, ec, xt, eneg, X, h1, h2, h3, h4⟩ := h.num
  exact num_case h1 h2 (by decide)
end Go.Proofs.YtdfodfflkmcgpaaGreatDoor
/- NumsBack at every kind and all bits: it returns true. -/
namespace Go.Proofs.YtdfodfflkmcgpaaGreatDoor
open Go.RowKit Go.Sort Near Parse
set_option linter.unusedVariables false
set_option maxHeartbeats 1600000
set_option maxRecDepth 100000
theorem sort1 {k : Int} (h : sortN k = 1) : k = 8 := by
  unfold sortN at h
  repeat' split at h
  all_goals omega
theorem sort6 {k : Int} (h : sortN k = 6) : k = 2 := by
  unfold sortN at h
  repeat' split at h
  all_goals omega
theorem sort7 {k : Int} (h : sortN k = 7) : k = 1 := by
  unfold sortN at h
  repeat' split at h
  all_goals omega
theorem not_fl {k : Int} (h : sortN k = 1 ∨ sortN k = 2 ∨ sortN k = 3 ∨ sortN k = 4 ∨ sortN k = 5) : k ≠ 1 ∧ k ≠ 2 := by
  constructor
  · rintro rfl
    have : sortN 1 = 7 := by decide
    omega
  · rintro rfl
    have : sortN 2 = 6 := by decide
    omega
theorem nan_int {k : Int} (v : Int) (h : k ≠ 1 ∧ k ≠ 2) : nanN k v = false := by unfold nanN; rw [decide_eq_false h.1, decide_eq_false h.2]; rfl
theorem not_truth {k : Int} (h : sortN k = 2 ∨ sortN k = 3 ∨ sortN k = 4 ∨ sortN k = 5) : k ≠ 8 := by
  rintro rfl
  have : sortN 8 = 1 := by decide
  omega
theorem back_int {B : Nat} (k : Int) (v : Nat) (neg : Bool) (N : Nat) (w : World) (hG : Rich B w) (hB : B ≤ w.heap.size) (h1 : v < 18446744073709551616) (hf : fitsN k v = true) (hk : sortN k = 2 ∨ sortN k = 3 ∨ sortN k = 4 ∨ sortN k = 5)
   (hN : N < 18446744073709551616) (hneg : neg = true → 0 < N) (hfit : outN (fitN k neg N) = .tuple #[.int .u64 (v : Nat), .int .i64 0])
   (hS : ∀ w, Rich B w → B ≤ w.heap.size → Calls Tryz.prog 18 #[.int .u8 k, .int .u64 (v : Nat)] w fun e w' => e = .returned (.string (strL (intL neg N))) ∧ Below B w w') :
    Calls Tryz.prog 6 #[.int .u8 k, .int .u64 (v : Nat)] w fun e w' => e = .returned (.bool true) ∧ Below B w w' := by
  have hl := intL_len (neg := neg) hN
  have hv0 : N = 0 → outN (fitN k neg N) = .tuple #[.int .u64 0, .int .i64 0] := by
    intro h0
    subst h0
    cases neg with
    | true => exact absurd (hneg rfl) (by omega)
    | false =>
      rw [hfit]
      unfold fitN at hfit
      rw [if_neg (by omega), if_neg (by simp), if_neg (by omega)] at hfit
      simp only [Bool.false_eq_true, if_false] at hfit
      split at hfit
      · simp [outN] at hfit
        rw [← hfit]
      · simp [outN] at hfit
  refine back_core k v (strL (intL neg N)) w hG hB (by omega) (by omega) hf (nan_int _ (not_fl (by omega))) (by rw [strL_size]; omega) hS (fun w hG hB => ?_) (fun w hG hB => ?_) (num_case (intL_num neg N) (dec_front N) (not_truth hk))
  · refine (read_int k (intL neg N) w hG hB (by omega) hk).mono fun e w' ⟨he, hb⟩ => ⟨?_, hb⟩
    rw [he, readN_intL k neg N hneg, hfit]
  · refine (whole_int k (intL_num neg N) (dec_front N) w hG hB (by omega) hk).mono fun e w' ⟨he, hb⟩ => ⟨?_, hb⟩
    rw [he, wholeV_intL k neg N hN hv0, hfit]
theorem back_truth {B : Nat} (b : Bool) (w : World) (hG : Rich B w) (hB : B ≤ w.heap.size) :
    Calls Tryz.prog 6 #[.int .u8 8, .int .u64 (if b then 1 else 0)] w fun e w' => e = .returned (.bool true) ∧ Below B w w' := by
  have hr : ∀ w, Calls Tryz.prog 28 #[.int .u8 8, .string (if b then ⟨#[116, 114, 117, 101]⟩ else ⟨#[102, 97, 108, 115, 101]⟩)] w fun e w' => e = .returned (.tuple #[.int .u64 (if b then 1 else 0), .int .i64 0]) ∧ Below B w w' := by
    intro w
    cases b
    · exact (read_false w).mono fun e w' ⟨he, hw⟩ => ⟨he, by rw [hw]; exact Below.refl _ _⟩
    · exact (read_true w).mono fun e w' ⟨he, hw⟩ => ⟨he, by rw [hw]; exact Below.refl _ _⟩
  refine back_core 8 _ _ w hG hB (by cases b <;> decide) (by cases b <;> decide) (by cases b <;> decide) (by cases b <;> decide) (by cases b <;> decide) (fun w _ _ => show_truth b w) (fun w _ _ => hr w) (fun w _ _ => whole_read 8 _ _ _ w (.inr (.inl (by decide))) fun w' _ => hr w') (.inl rfl)
theorem back_float64 {B : Nat} (neg : Bool) (R : Nat) (hR : R < 9223372036854775808) (w : World) (hG : Rich B w) (hB : B ≤ w.heap.size) :
    Calls Tryz.prog 6 #[.int .u8 1, .int .u64 (sgn64 neg + R : Nat)] w fun e w' => e = .returned (.bool true) ∧ Below B w w' := by
  have hsg : sgn64 neg = if neg then 9223372036854775808 else 0 := rfl
  have hv : sgn64 neg + R < 18446744073709551616 := by rw [hsg]; split <;> omega
  have hm : (sgn64 neg + R) % 9223372036854775808 = R := by rw [hsg]; split <;> omega
  have hmi : ((sgn64 neg + R : Nat) : Int) % 9223372036854775808 = R := by omega
  have hf : fitsN 1 (sgn64 neg + R : Nat) = true := by
    unfold fitsN
    rw [if_neg (by decide), if_neg (by decide), if_neg (by decide), if_neg (by decide)]
  rcases Nat.lt_or_ge 9218868437227405312 R with h | h
  · refine back_nan 1 _ 9221120237041090560 w hG hB (by omega) (by omega) hf ?_ (fun w _ _ => nan_show64 _ w hv (by omega)) (fun w _ _ => read_fl64 _ _ _ w fun w' _ => (rf_nan64 w').mono fun e w'' ⟨he, hw⟩ => ⟨he, by rw [hw]; exact Below.refl _ _⟩) (.inl rfl)
    unfold nanN
    rw [hmi, decide_eq_true (by omega : (9218868437227405312 : Int) < R)]
    rfl
  · have hn : nanN 1 (sgn64 neg + R : Nat) = false := by
      unfold nanN
      rw [hmi, decide_eq_false (by omega : ¬ (9218868437227405312 : Int) < R), decide_eq_false (by decide : ¬ (1 : Int) = 2)]
      rfl
    rcases Nat.lt_or_ge R 9218868437227405312 with h2 | h2
    · -- a number
      have key : ∃ l, Float64 (sgn64 neg + R) l neg R ∧ ∀ w, Good B w → B ≤ w.heap.size → Calls Tryz.prog 40 #[.float .f64 (sgn64 neg + R : Nat), .int .i64 64] w fun e w'' => e = .returned (.string (strL l)) ∧ Below B w w'' := by
        rcases Nat.eq_zero_or_pos R with h3 | h3
        · subst h3
          exact ⟨zeroL neg, zero_num64 neg, fun w hG hB => floating_zero64 neg _ hG hB⟩
        · obtain ⟨D, x, hS, hC⟩ := floating64_any (B := B) neg R (by omega) h2
          exact ⟨_, shown_num64 rfl h2 hS (laid_len hS neg), hC⟩
      obtain ⟨l, hF, hC⟩ := key
      have hll := hF.len
      refine back_core 1 _ (strL l) w hG hB (by omega) (by omega) hf hn (by rw [strL_size]; exact hll) (fun w hG hB => show_fl64 _ _ w hv fun w' hw => ?_) (fun w hG hB => hF.read w hG hB) (fun w hG hB => whole_read 1 _ _ _ w (.inr (.inr (.inr (by decide)))) fun w' hw => ?_) hF.case
      · subst hw; exact hC _ hG.toGood hB
      · subst hw; exact hF.read _ hG hB
    · have h3 : R = 9218868437227405312 := by omega
      subst h3
      have hr : ∀ w, Calls Tryz.prog 28 #[.int .u8 1, .string (infT neg)] w fun e w' => e = .returned (.tuple #[.int .u64 (sgn64 neg + 9218868437227405312 : Nat), .int .i64 0]) ∧ Below B w w' := fun w =>
        read_fl64 _ _ _ w fun w' _ => (rf_inf64 neg w').mono fun e w'' ⟨he, hw⟩ => ⟨he, by rw [hw]; exact Below.refl _ _⟩
      refine back_core 1 _ (infT neg) w hG hB (by omega) (by omega) hf hn (by cases neg <;> decide) (fun w _ _ => inf_show64 neg w) (fun w _ _ => hr w) (fun w _ _ => whole_read 1 _ _ _ w (.inr (.inr (.inr (by decide)))) fun w' _ => hr w') ?_
      cases neg
      · exact .inr (.inl ⟨by decide, rfl⟩)
      · exact .inr (.inr (.inl ⟨by decide, rfl⟩))
theorem back_float32 {B : Nat} (neg : Bool) (R : Nat) (hR : R < 2147483648) (w : World) (hG : Rich B w) (hB : B ≤ w.heap.size) :
    Calls Tryz.prog 6 #[.int .u8 2, .int .u64 (sgn32 neg + R : Nat)] w fun e w' => e = .returned (.bool true) ∧ Below B w w' := by
  have hsg : sgn32 neg = if neg then 2147483648 else 0 := rfl
  have hv : sgn32 neg + R < 4294967296 := by rw [hsg]; split <;> omega
  have hm : (sgn32 neg + R) % 2147483648 = R := by rw [hsg]; split <;> omega
  have hmi : ((sgn32 neg + R : Nat) : Int) % 2147483648 = R := by omega
  have hf : fitsN 2 (sgn32 neg + R : Nat) = true := by
    unfold fitsN
    rw [if_neg (by decide), if_neg (by decide), if_neg (by decide), if_pos (by decide)]
    exact decide_eq_true (by omega)
  rcases Nat.lt_or_ge 2139095040 R with h | h
  · refine back_nan 2 _ 2143289344 w hG hB (by omega) (by omega) hf ?_ (fun w _ _ => nan_show32 _ w hv (by omega)) (fun w _ _ => read_fl32 _ _ _ w fun w' _ => (rf_nan32 w').mono fun e w'' ⟨he, hw⟩ => ⟨he, by rw [hw]; exact Below.refl _ _⟩) (.inr rfl)
    unfold nanN
    rw [hmi, decide_eq_true (by omega : (2139095040 : Int) < R)]
    rfl
  · have hn : nanN 2 (sgn32 neg + R : Nat) = false := by
      unfold nanN
      rw [hmi, decide_eq_false (by omega : ¬ (2139095040 : Int) < R), decide_eq_false (by decide : ¬ (2 : Int) = 1)]
      rfl
    rcases Nat.lt_or_ge R 2139095040 with h2 | h2
    · -- a number
      have key : ∃ (y : Nat) (l : List UInt8), floatToFloatBits .f32 (sgn32 neg + R) .f64 = some y ∧ Float32 (sgn32 neg + R) l neg R ∧ ∀ w, Good B w → B ≤ w.heap.size → Calls Tryz.prog 40 #[.float .f64 y, .int .i64 32] w fun e w'' => e = .returned (.string (strL l)) ∧ Below B w w'' := by
        rcases Nat.eq_zero_or_pos R with h3 | h3
        · subst h3
          exact ⟨sgn64 neg, zeroL neg, wide_zero neg, zero_num32 neg, fun w hG hB => floating_zero32 neg _ hG hB⟩
        · obtain ⟨y, D, x, hy, hS, hC⟩ := floating32_any (B := B) neg R (by omega) h2
          exact ⟨y, _, hy, shown_num32 rfl h2 hS (laid_len hS neg), hC⟩
      obtain ⟨y, l, hy, hF, hC⟩ := key
      have hll := hF.len
      refine back_core 2 _ (strL l) w hG hB (by omega) (by omega) hf hn (by rw [strL_size]; exact hll) (fun w hG hB => show_fl32 _ y _ w w hv (Below.refl _ _) (run_convert_float_float w 60 59 .f32 .f64 _ _ (by kernel_rfl) (by kernel_rfl) hy) fun w' hw => ?_) (fun w hG hB => hF.read w hG hB) (fun w hG hB => whole_read 2 _ _ _ w (.inr (.inr (.inl (by decide)))) fun w' hw => ?_) hF.case
      · subst hw; exact hC _ hG.toGood hB
      · subst hw; exact hF.read _ hG hB
    · have h3 : R = 2139095040 := by omega
      subst h3
      have hr : ∀ w, Calls Tryz.prog 28 #[.int .u8 2, .string (infT neg)] w fun e w' => e = .returned (.tuple #[.int .u64 (sgn32 neg + 2139095040 : Nat), .int .i64 0]) ∧ Below B w w' := fun w =>
        read_fl32 _ _ _ w fun w' _ => (rf_inf32 neg w').mono fun e w'' ⟨he, hw⟩ => ⟨he, by rw [hw]; exact Below.refl _ _⟩
      refine back_core 2 _ (infT neg) w hG hB (by omega) (by omega) hf hn (by cases neg <;> decide) (fun w _ _ => inf_show32 neg w) (fun w _ _ => hr w) (fun w _ _ => whole_read 2 _ _ _ w (.inr (.inr (.inl (by decide)))) fun w' _ => hr w') ?_
      cases neg
      · exact .inr (.inl ⟨by decide, rfl⟩)
      · exact .inr (.inr (.inl ⟨by decide, rfl⟩))
theorem back_any {B : Nat} (k : Int) (v : Nat) (w : World) (hG : Rich B w) (hB : B ≤ w.heap.size) (h1 : v < 18446744073709551616) :
    Calls Tryz.prog 6 #[.int .u8 k, .int .u64 (v : Nat)] w fun e w' => e = .returned (.bool true) ∧ Below B w w' := by
  cases hf : fitsN k v with
  | false => exact back_none k v w hG hB (by omega) (by omega) hf
  | true =>
    rcases sort_cases k with h | h | h | h | h | h | h | h
    · exfalso
      unfold fitsN at hf
      rw [if_pos h] at hf
      cases hf
    · have hk := sort1 h
      subst hk
      have hb : v = 0 ∨ v = 1 := by
        unfold fitsN at hf
        rw [if_neg (by decide), if_pos (by decide)] at hf
        have := of_decide_eq_true hf
        omega
      rcases hb with rfl | rfl
      · exact back_truth false w hG hB
      · exact back_truth true w hG hB
    · obtain ⟨a1, a2, a3⟩ := fit_signed (k := k) (v := v) (by omega) (by omega) hf (.inl h)
      exact back_int k v _ _ w hG hB h1 hf (.inl h) a2 a3 a1 fun w hG hB => by
        have := show_signed k v w hG.toGood hB (by omega) (by omega) hf (.inl h)
        rwa [intL_itoa] at this
    · obtain ⟨a1, a2, a3⟩ := fit_signed (k := k) (v := v) (by omega) (by omega) hf (.inr h)
      exact back_int k v _ _ w hG hB h1 hf (.inr (.inl h)) a2 a3 a1 fun w hG hB => by
        have := show_signed k v w hG.toGood hB (by omega) (by omega) hf (.inr h)
        rwa [intL_itoa] at this
    · exact back_int k v false v w hG hB h1 hf (.inr (.inr (.inl h))) h1 (fun h => by cases h) (fit_unsigned h1 hf (.inl h)) fun w hG hB => show_unsigned k v w hG.toGood hB h1 hf (.inl h)
    · exact back_int k v false v w hG hB h1 hf (.inr (.inr (.inr h))) h1 (fun h => by cases h) (fit_unsigned h1 hf (.inr h)) fun w hG hB => show_unsigned k v w hG.toGood hB h1 hf (.inr h)
    · have hk := sort6 h
      subst hk
      have hv : v < 4294967296 := by
        unfold fitsN at hf
        rw [if_neg (by decide), if_neg (by decide), if_neg (by decide), if_pos (by decide)] at hf
        have := of_decide_eq_true hf
        omega
      have e : v = sgn32 (decide (2147483648 ≤ v)) + v % 2147483648 := by
        unfold sgn32
        by_cases h2 : 2147483648 ≤ v
        · rw [decide_eq_true h2, if_pos rfl]; omega
        · rw [decide_eq_false h2, if_neg (by simp)]; omega
      rw [e]
      exact back_float32 _ _ (Nat.mod_lt _ (by decide)) w hG hB
    · have hk := sort7 h
      subst hk
      have e : v = sgn64 (decide (9223372036854775808 ≤ v)) + v % 9223372036854775808 := by
        unfold sgn64
        by_cases h2 : 9223372036854775808 ≤ v
        · rw [decide_eq_true h2, if_pos rfl]; omega
        · rw [decide_eq_false h2, if_neg (by simp)]; omega
      rw [e]
      exact back_float64 _ _ (Nat.mod_lt _ (by decide)) w hG hB
end Go.Proofs.YtdfodfflkmcgpaaGreatDoor
