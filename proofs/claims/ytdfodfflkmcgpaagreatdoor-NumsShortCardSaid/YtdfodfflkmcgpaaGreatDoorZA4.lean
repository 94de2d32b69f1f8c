/- The shortest digits of a floating number, as the code reckons them: the three roads of shortFloat, for both widths. -/
import Derived.Test.YtdfodfflkmcgpaaGreatDoorZA2
namespace Go.Proofs.YtdfodfflkmcgpaaGreatDoor
open Go.RowKit Uscale Pow10
set_option linter.unusedVariables false
theorem or_bit (a : Nat) (b : Bool) : a ≤ a ||| b.toNat ∧ a ||| b.toNat ≤ a + 1 := by
  cases b
  · simp
  · have := or_one a
    show a ≤ a ||| 1 ∧ a ||| 1 ≤ a + 1
    omega
theorem div_bd {H s : Nat} (hH : 2305843009213693951 ≤ H + 1) (hs : s ≤ 60) : 1 ≤ H / 2 ^ s := by
  have h1 : (2:Nat) ^ s ≤ 2 ^ 60 := Nat.pow_le_pow_right (by omega) hs
  have h2 : (2:Nat) ^ 60 = 1152921504606846976 := rfl
  exact (Nat.le_div_iff_mul_le (Nat.two_pow_pos s)).2 (by omega)
theorem div_bd2 {H s : Nat} (hH : H < 18446744073709551616) (hs : 1 ≤ s) : H / 2 ^ s ≤ 9223372036854775808 := by
  have h1 : 2 * 1 ≤ (2:Nat) ^ s := by
    obtain ⟨k, rfl⟩ : ∃ k, s = k + 1 := ⟨s - 1, by omega⟩
    have := Nat.two_pow_pos k
    rw [Nat.pow_succ]; omega
  have h2 : H / 2 ^ s ≤ H / 2 := Nat.div_le_div_left (by omega) (by omega)
  omega
theorem uscaleF_bd {x hi lo s : Nat} (hx0 : 4611686018427387904 ≤ x) (hx : x < 18446744073709551616) (hhi0 : 9223372036854775808 ≤ hi) (hhi : hi < 18446744073709551616) (hs1 : 1 ≤ s) (hs : s ≤ 60) :
    1 ≤ uscaleF x hi lo s ∧ uscaleF x hi lo s ≤ 9223372036854775809 := by
  have hHb : 4611686018427387904 * 9223372036854775808 ≤ x * hi := Nat.mul_le_mul hx0 hhi0
  have hP : x * hi < 18446744073709551616 * 18446744073709551616 := Nat.mul_lt_mul'' hx hhi
  unfold uscaleF
  have f0 : 2305843009213693952 ≤ x * hi / 18446744073709551616 := by omega
  have f1 : x * hi / 18446744073709551616 < 18446744073709551616 := by omega
  generalize x * hi / 18446744073709551616 = H at *
  split
  · have hb : (decide (x * hi % 18446744073709551616 < x * lo / 18446744073709551616)).toNat ≤ 1 := Bool.toNat_le _
    generalize (decide (x * hi % 18446744073709551616 < x * lo / 18446744073709551616)).toNat = k at *
    have a1 := div_bd (H := H - k) (s := s) (by omega) hs
    have a2 := div_bd2 (H := H - k) (s := s) (by omega) hs1
    have a3 := or_bit ((H - k) / 2 ^ s) (decide (1 < (x * hi % 18446744073709551616 + 18446744073709551616 - x * lo / 18446744073709551616) % 18446744073709551616))
    omega
  · have a1 := div_bd (H := H) (s := s) (by omega) hs
    have a2 := div_bd2 (H := H) (s := s) (by omega) hs1
    have a3 : H / 2 ^ s ≤ H / 2 ^ s ||| 1 ∧ H / 2 ^ s ||| 1 ≤ H / 2 ^ s + 1 := or_bit (H / 2 ^ s) true
    omega

/-- the scaled number by its row of the table. -/
def usc (x q s : Int) : Nat := uscaleF x.toNat (hiOf (-q + 348).toNat) (loOf (-q + 348).toNat) s.toNat
theorem usc_bd {x q s : Int} (hx0 : 4611686018427387904 ≤ x) (hx : x < 18446744073709551616) (hq0 : -340 ≤ q) (hq1 : q ≤ 340) (hs0 : 1 ≤ s) (hs1 : s ≤ 60) : 1 ≤ (usc x q s : Int) ∧ (usc x q s : Int) ≤ 9223372036854775809 := by
  obtain ⟨r1, r2, r3, -, -⟩ := row (i := (-q + 348).toNat) (by omega)
  have := uscaleF_bd (x := x.toNat) (lo := loOf (-q + 348).toNat) (s := s.toNat) (by omega) (by omega) r1 r2 (by omega) (by omega)
  unfold usc; omega
theorem usc_calls (x q s : Int) (U : Int) (b : Nat) (w : World) (hx0 : 4611686018427387904 ≤ x) (hx : x < 18446744073709551616) (hq0 : -340 ≤ q) (hq1 : q ≤ 340) (hs0 : 1 ≤ s) (hs1 : s ≤ 60)
   (hU : (usc x q s : Int) = U)
   (c0 : w.cell? ⟨b, 0, none⟩ = some (.int .u64 (hiOf (-q + 348).toNat))) (c1 : w.cell? ⟨b, 1, none⟩ = some (.int .u64 (loOf (-q + 348).toNat))) (c2 : w.cell? ⟨b, 2, none⟩ = some (.int .i64 s)) :
    Calls Tryz.prog 192 #[.int .u64 x, .pointer (some ⟨b, 0, none⟩)] w fun e w' => e = .returned (.int .u64 U) ∧ ∃ n, w' = w.drewN n := by
  obtain ⟨r1, r2, r3, -, -⟩ := row (i := (-q + 348).toNat) (by omega)
  subst hU
  exact uscale_int x s _ _ b w (by omega) hx r1 r2 r3 (by omega) (by omega) c0 c1 c2

/-- the code's choice out of the two ends and the middle. -/
def shortU (U1 U2 U3 odd q : Int) : Int × Int :=
  if (U1 + odd + 3) / 4 ≤ (U2 + -odd) / 4 / 10 * 10 then ((U2 + -odd) / 4 / 10, q + 1)
  else (if (U1 + odd + 3) / 4 < (U2 + -odd) / 4 then (U3 + 1 + U3 / 4 % 2) / 4 else (U1 + odd + 3) / 4, q)
theorem ret2 {k1 k2 : IntKind} {a b : Int} {r : Int × Int} (h : r = (a, b)) : Ending.returned (.tuple #[.int k1 a, .int k2 b]) = .returned (.tuple #[.int k1 r.1, .int k2 r.2]) := by rw [h]

set_option maxHeartbeats 800000 in
theorem short64_A {B : Nat} (e : Int) (q l s : Int) (w : World) (hG : Good B w) (hB : B ≤ w.heap.size) (he0 : -1085 < e) (he1 : e ≤ 960) 
   (hq0 : -340 ≤ q) (hq1 : q ≤ 340) (hl0 : -2000 ≤ l) (hl1 : l ≤ 2000) (hq : Hid (((e + 11) * 631305 - 261663) / 2097152 = q)) (hl : Hid ((-q) * 108853 / 32768 = l)) (hs : Hid (-(e + l + 3) = s)) (hs0 : 1 ≤ s) (hs1 : s ≤ 60)
   (odd U1 U2 U3 : Int) (hodd : bits .and .i64 4503599627370496 1 = odd) (ho0 : 0 ≤ odd) (ho1 : odd ≤ 1) (h1 : Hid ((usc 9223372036854775296 q s : Int) = U1)) (h2 : Hid ((usc 9223372036854776832 q s : Int) = U2)) (h3 : Hid ((usc 9223372036854775808 q s : Int) = U3)) :
    Calls Tryz.prog 179 #[.int .u64 9223372036854775808, .int .i64 e] w fun e' w' => e' = .returned (.tuple #[.int .u64 (shortU U1 U2 U3 odd q).1, .int .i64 (shortU U1 U2 U3 odd q).2]) ∧ Below w.heap.size w w' := by
  have hb1 := usc_bd (x := 9223372036854775296) (q := q) (s := s) (by omega) (by omega) hq0 hq1 hs0 hs1
  rw [h1.out] at hb1
  have hb2 := usc_bd (x := 9223372036854776832) (q := q) (s := s) (by omega) (by omega) hq0 hq1 hs0 hs1
  rw [h2.out] at hb2
  have hb3 := usc_bd (x := 9223372036854775808) (q := q) (s := s) (by omega) (by omega) hq0 hq1 hs0 hs1
  rw [h3.out] at hb3
  go_enter Tryz.func179, Tryz.ntmps179
  go_wp2_with fail
  refine (skewed_to _ q _ (by omega) (by omega) hq.out).mono ?_
  rintro e' w' ⟨rfl, hw'⟩; rw [hw']; clear hw' w'
  go_wp2_with fail
  refine (log2Pow10_to _ l _ (by omega) (by omega) hl.out).mono ?_
  rintro e' w' ⟨rfl, hw'⟩; rw [hw']; clear hw' w'
  go_wp2_with fail
  refine (prescale_fresh _ _ _ s _ _ _ _ hG hB (by omega) (by omega) (by omega) (by omega) (by omega) (by omega) hs.out).mono ?_
  rintro e' w' ⟨rfl, hw'⟩; rw [hw']; clear hw' w'
  go_wp2_with fail
  refine (usc_calls _ q s U1 _ _ (by omega) (by omega) (by omega) (by omega) (by omega) (by omega) h1.out (by simp) (by simp) (by simp)).mono ?_
  rintro e' w' ⟨rfl, n, hw'⟩; rw [hw']; clear hw' w'
  go_wp2_with fail
  refine (nudge_any _ _ _ (by omega) (by omega) (by omega) (by omega)).mono ?_
  rintro e' w' ⟨rfl, hw'⟩; rw [hw']; clear hw' w'
  go_wp2_with fail
  refine (ceil_any _ _ (by omega) (by omega)).mono ?_
  rintro e' w' ⟨rfl, hw'⟩; rw [hw']; clear hw' w'
  go_wp2_with fail
  refine (usc_calls _ q s U2 _ _ (by omega) (by omega) (by omega) (by omega) (by omega) (by omega) h2.out (by simp) (by simp) (by simp)).mono ?_
  rintro e' w' ⟨rfl, n2, hw'⟩; rw [hw']; clear hw' w'
  go_wp2_with fail
  refine (nudge_any _ _ _ (by omega) (by omega) (by omega) (by omega)).mono ?_
  rintro e' w' ⟨rfl, hw'⟩; rw [hw']; clear hw' w'
  go_wp2_with fail
  refine (floor_any _ _ (by omega) (by omega)).mono ?_
  rintro e' w' ⟨rfl, hw'⟩; rw [hw']; clear hw' w'
  go_wp2_with fail
  · have ht : (U1 + odd + 3) / 4 ≤ (U2 + -odd) / 4 / 10 * 10 := by assumption
    go_ret2
    exact ⟨ret2 (by unfold shortU; rw [if_pos ht]; congr 1; omega), below_drewN ((Below.refl _ _).alloc (Nat.le_refl _) _) _⟩
  · have ht : (U2 + -odd) / 4 / 10 * 10 < (U1 + odd + 3) / 4 := by assumption
    have ht2 : (U1 + odd + 3) / 4 < (U2 + -odd) / 4 := by assumption
    refine (usc_calls _ q s U3 _ _ (by omega) (by omega) (by omega) (by omega) (by omega) (by omega) h3.out (by simp) (by simp) (by simp)).mono ?_
    rintro e' w' ⟨rfl, n3, hw'⟩; rw [hw']; clear hw' w'
    go_wp2_with fail
    refine (round_any _ _ (by omega) (by omega)).mono ?_
    rintro e' w' ⟨rfl, hw'⟩; rw [hw']; clear hw' w'
    go_wp2_with fail
    go_ret2
    exact ⟨ret2 (by unfold shortU; rw [if_neg (by omega), if_pos ht2]), below_drewN ((Below.refl _ _).alloc (Nat.le_refl _) _) _⟩
  · have ht : (U2 + -odd) / 4 / 10 * 10 < (U1 + odd + 3) / 4 := by assumption
    have ht2 : (U2 + -odd) / 4 ≤ (U1 + odd + 3) / 4 := by assumption
    go_ret2
    exact ⟨ret2 (by unfold shortU; rw [if_neg (by omega), if_neg (by omega)]), below_drewN ((Below.refl _ _).alloc (Nat.le_refl _) _) _⟩

set_option maxHeartbeats 800000 in
theorem short64_B {B : Nat} (m : Int) (e : Int) (q l s : Int) (w : World) (hG : Good B w) (hB : B ≤ w.heap.size) (hm0 : 9223372036854775808 < m) (hm1 : m ≤ 18446744073709549568) (he0 : -1085 ≤ e) (he1 : e ≤ 960) 
   (hq0 : -340 ≤ q) (hq1 : q ≤ 340) (hl0 : -2000 ≤ l) (hl1 : l ≤ 2000) (hq : Hid ((e + 11) * 78913 / 262144 = q)) (hl : Hid ((-q) * 108853 / 32768 = l)) (hs : Hid (-(e + l + 3) = s)) (hs0 : 1 ≤ s) (hs1 : s ≤ 60)
   (odd U1 U2 U3 : Int) (hodd : bits .and .i64 (m / 2048) 1 = odd) (ho0 : 0 ≤ odd) (ho1 : odd ≤ 1) (h1 : Hid ((usc (m - 1024) q s : Int) = U1)) (h2 : Hid ((usc (m + 1024) q s : Int) = U2)) (h3 : Hid ((usc m q s : Int) = U3)) :
    Calls Tryz.prog 179 #[.int .u64 m, .int .i64 e] w fun e' w' => e' = .returned (.tuple #[.int .u64 (shortU U1 U2 U3 odd q).1, .int .i64 (shortU U1 U2 U3 odd q).2]) ∧ Below w.heap.size w w' := by
  have hb1 := usc_bd (x := (m - 1024)) (q := q) (s := s) (by omega) (by omega) hq0 hq1 hs0 hs1
  rw [h1.out] at hb1
  have hb2 := usc_bd (x := (m + 1024)) (q := q) (s := s) (by omega) (by omega) hq0 hq1 hs0 hs1
  rw [h2.out] at hb2
  have hb3 := usc_bd (x := m) (q := q) (s := s) (by omega) (by omega) hq0 hq1 hs0 hs1
  rw [h3.out] at hb3
  have b2 : (m == 9223372036854775808) = false := by rw [beq_eq_false_iff_ne]; omega
  go_enter Tryz.func179, Tryz.ntmps179
  go_wp2_with fail
  refine (log10Pow2_to _ q _ (by omega) (by omega) hq.out).mono ?_
  rintro e' w' ⟨rfl, hw'⟩; rw [hw']; clear hw' w'
  go_wp2_with fail
  refine (log2Pow10_to _ l _ (by omega) (by omega) hl.out).mono ?_
  rintro e' w' ⟨rfl, hw'⟩; rw [hw']; clear hw' w'
  go_wp2_with fail
  refine (prescale_fresh _ _ _ s _ _ _ _ hG hB (by omega) (by omega) (by omega) (by omega) (by omega) (by omega) hs.out).mono ?_
  rintro e' w' ⟨rfl, hw'⟩; rw [hw']; clear hw' w'
  go_wp2_with fail
  refine (usc_calls _ q s U1 _ _ (by omega) (by omega) (by omega) (by omega) (by omega) (by omega) h1.out (by simp) (by simp) (by simp)).mono ?_
  rintro e' w' ⟨rfl, n, hw'⟩; rw [hw']; clear hw' w'
  go_wp2_with fail
  refine (nudge_any _ _ _ (by omega) (by omega) (by omega) (by omega)).mono ?_
  rintro e' w' ⟨rfl, hw'⟩; rw [hw']; clear hw' w'
  go_wp2_with fail
  refine (ceil_any _ _ (by omega) (by omega)).mono ?_
  rintro e' w' ⟨rfl, hw'⟩; rw [hw']; clear hw' w'
  go_wp2_with fail
  refine (usc_calls _ q s U2 _ _ (by omega) (by omega) (by omega) (by omega) (by omega) (by omega) h2.out (by simp) (by simp) (by simp)).mono ?_
  rintro e' w' ⟨rfl, n2, hw'⟩; rw [hw']; clear hw' w'
  go_wp2_with fail
  refine (nudge_any _ _ _ (by omega) (by omega) (by omega) (by omega)).mono ?_
  rintro e' w' ⟨rfl, hw'⟩; rw [hw']; clear hw' w'
  go_wp2_with fail
  refine (floor_any _ _ (by omega) (by omega)).mono ?_
  rintro e' w' ⟨rfl, hw'⟩; rw [hw']; clear hw' w'
  go_wp2_with fail
  · have ht : (U1 + odd + 3) / 4 ≤ (U2 + -odd) / 4 / 10 * 10 := by assumption
    go_ret2
    exact ⟨ret2 (by unfold shortU; rw [if_pos ht]; congr 1; omega), below_drewN ((Below.refl _ _).alloc (Nat.le_refl _) _) _⟩
  · have ht : (U2 + -odd) / 4 / 10 * 10 < (U1 + odd + 3) / 4 := by assumption
    have ht2 : (U1 + odd + 3) / 4 < (U2 + -odd) / 4 := by assumption
    refine (usc_calls _ q s U3 _ _ (by omega) (by omega) (by omega) (by omega) (by omega) (by omega) h3.out (by simp) (by simp) (by simp)).mono ?_
    rintro e' w' ⟨rfl, n3, hw'⟩; rw [hw']; clear hw' w'
    go_wp2_with fail
    refine (round_any _ _ (by omega) (by omega)).mono ?_
    rintro e' w' ⟨rfl, hw'⟩; rw [hw']; clear hw' w'
    go_wp2_with fail
    go_ret2
    exact ⟨ret2 (by unfold shortU; rw [if_neg (by omega), if_pos ht2]), below_drewN ((Below.refl _ _).alloc (Nat.le_refl _) _) _⟩
  · have ht : (U2 + -odd) / 4 / 10 * 10 < (U1 + odd + 3) / 4 := by assumption
    have ht2 : (U2 + -odd) / 4 ≤ (U1 + odd + 3) / 4 := by assumption
    go_ret2
    exact ⟨ret2 (by unfold shortU; rw [if_neg (by omega), if_neg (by omega)]), below_drewN ((Below.refl _ _).alloc (Nat.le_refl _) _) _⟩

set_option maxHeartbeats 800000 in
theorem short64_D {B : Nat} (q l s : Int) (w : World) (hG : Good B w) (hB : B ≤ w.heap.size) 
   (hq0 : -340 ≤ q) (hq1 : q ≤ 340) (hl0 : -2000 ≤ l) (hl1 : l ≤ 2000) (hq : Hid ((-1074) * 78913 / 262144 = q)) (hl : Hid ((-q) * 108853 / 32768 = l)) (hs : Hid (-((-1085) + l + 3) = s)) (hs0 : 1 ≤ s) (hs1 : s ≤ 60)
   (odd U1 U2 U3 : Int) (hodd : bits .and .i64 4503599627370496 1 = odd) (ho0 : 0 ≤ odd) (ho1 : odd ≤ 1) (h1 : Hid ((usc 9223372036854774784 q s : Int) = U1)) (h2 : Hid ((usc 9223372036854776832 q s : Int) = U2)) (h3 : Hid ((usc 9223372036854775808 q s : Int) = U3)) :
    Calls Tryz.prog 179 #[.int .u64 9223372036854775808, .int .i64 (-1085)] w fun e' w' => e' = .returned (.tuple #[.int .u64 (shortU U1 U2 U3 odd q).1, .int .i64 (shortU U1 U2 U3 odd q).2]) ∧ Below w.heap.size w w' := by
  have hb1 := usc_bd (x := 9223372036854774784) (q := q) (s := s) (by omega) (by omega) hq0 hq1 hs0 hs1
  rw [h1.out] at hb1
  have hb2 := usc_bd (x := 9223372036854776832) (q := q) (s := s) (by omega) (by omega) hq0 hq1 hs0 hs1
  rw [h2.out] at hb2
  have hb3 := usc_bd (x := 9223372036854775808) (q := q) (s := s) (by omega) (by omega) hq0 hq1 hs0 hs1
  rw [h3.out] at hb3
  go_enter Tryz.func179, Tryz.ntmps179
  go_wp2_with fail
  refine (log10Pow2_to _ q _ (by omega) (by omega) hq.out).mono ?_
  rintro e' w' ⟨rfl, hw'⟩; rw [hw']; clear hw' w'
  go_wp2_with fail
  refine (log2Pow10_to _ l _ (by omega) (by omega) hl.out).mono ?_
  rintro e' w' ⟨rfl, hw'⟩; rw [hw']; clear hw' w'
  go_wp2_with fail
  refine (prescale_fresh _ _ _ s _ _ _ _ hG hB (by omega) (by omega) (by omega) (by omega) (by omega) (by omega) hs.out).mono ?_
  rintro e' w' ⟨rfl, hw'⟩; rw [hw']; clear hw' w'
  go_wp2_with fail
  refine (usc_calls _ q s U1 _ _ (by omega) (by omega) (by omega) (by omega) (by omega) (by omega) h1.out (by simp) (by simp) (by simp)).mono ?_
  rintro e' w' ⟨rfl, n, hw'⟩; rw [hw']; clear hw' w'
  go_wp2_with fail
  refine (nudge_any _ _ _ (by omega) (by omega) (by omega) (by omega)).mono ?_
  rintro e' w' ⟨rfl, hw'⟩; rw [hw']; clear hw' w'
  go_wp2_with fail
  refine (ceil_any _ _ (by omega) (by omega)).mono ?_
  rintro e' w' ⟨rfl, hw'⟩; rw [hw']; clear hw' w'
  go_wp2_with fail
  refine (usc_calls _ q s U2 _ _ (by omega) (by omega) (by omega) (by omega) (by omega) (by omega) h2.out (by simp) (by simp) (by simp)).mono ?_
  rintro e' w' ⟨rfl, n2, hw'⟩; rw [hw']; clear hw' w'
  go_wp2_with fail
  refine (nudge_any _ _ _ (by omega) (by omega) (by omega) (by omega)).mono ?_
  rintro e' w' ⟨rfl, hw'⟩; rw [hw']; clear hw' w'
  go_wp2_with fail
  refine (floor_any _ _ (by omega) (by omega)).mono ?_
  rintro e' w' ⟨rfl, hw'⟩; rw [hw']; clear hw' w'
  go_wp2_with fail
  · have ht : (U1 + odd + 3) / 4 ≤ (U2 + -odd) / 4 / 10 * 10 := by assumption
    go_ret2
    exact ⟨ret2 (by unfold shortU; rw [if_pos ht]; congr 1; omega), below_drewN ((Below.refl _ _).alloc (Nat.le_refl _) _) _⟩
  · have ht : (U2 + -odd) / 4 / 10 * 10 < (U1 + odd + 3) / 4 := by assumption
    have ht2 : (U1 + odd + 3) / 4 < (U2 + -odd) / 4 := by assumption
    refine (usc_calls _ q s U3 _ _ (by omega) (by omega) (by omega) (by omega) (by omega) (by omega) h3.out (by simp) (by simp) (by simp)).mono ?_
    rintro e' w' ⟨rfl, n3, hw'⟩; rw [hw']; clear hw' w'
    go_wp2_with fail
    refine (round_any _ _ (by omega) (by omega)).mono ?_
    rintro e' w' ⟨rfl, hw'⟩; rw [hw']; clear hw' w'
    go_wp2_with fail
    go_ret2
    exact ⟨ret2 (by unfold shortU; rw [if_neg (by omega), if_pos ht2]), below_drewN ((Below.refl _ _).alloc (Nat.le_refl _) _) _⟩
  · have ht : (U2 + -odd) / 4 / 10 * 10 < (U1 + odd + 3) / 4 := by assumption
    have ht2 : (U2 + -odd) / 4 ≤ (U1 + odd + 3) / 4 := by assumption
    go_ret2
    exact ⟨ret2 (by unfold shortU; rw [if_neg (by omega), if_neg (by omega)]), below_drewN ((Below.refl _ _).alloc (Nat.le_refl _) _) _⟩

set_option maxHeartbeats 800000 in
theorem short64_C {B : Nat} (m : Int) (e : Int) (q l s : Int) (w : World) (hG : Good B w) (hB : B ≤ w.heap.size) (z : Nat) (hz0 : 12 ≤ z) (hz1 : z ≤ 63) (hz : (11 : Int) + (-1085 - e) = z) (hm0 : 9223372036854775808 < m) (hm1 : m + 2 ^ (z - 1) < 18446744073709551616) (hm2 : (2 : Int) ^ (z - 1) ≤ 4611686018427387904) (hm3 : (1 : Int) ≤ 2 ^ (z - 1)) (he0 : -1200 ≤ e) (he1 : e < -1085) 
   (hq0 : -340 ≤ q) (hq1 : q ≤ 340) (hl0 : -2000 ≤ l) (hl1 : l ≤ 2000) (hq : Hid ((e + z) * 78913 / 262144 = q)) (hl : Hid ((-q) * 108853 / 32768 = l)) (hs : Hid (-(e + l + 3) = s)) (hs0 : 1 ≤ s) (hs1 : s ≤ 60)
   (odd U1 U2 U3 : Int) (hodd : bits .and .i64 (wrap64 (m / 2 ^ z)) 1 = odd) (ho0 : 0 ≤ odd) (ho1 : odd ≤ 1) (h1 : Hid ((usc (m - 2 ^ (z - 1)) q s : Int) = U1)) (h2 : Hid ((usc (m + 2 ^ (z - 1)) q s : Int) = U2)) (h3 : Hid ((usc m q s : Int) = U3)) :
    Calls Tryz.prog 179 #[.int .u64 m, .int .i64 e] w fun e' w' => e' = .returned (.tuple #[.int .u64 (shortU U1 U2 U3 odd q).1, .int .i64 (shortU U1 U2 U3 odd q).2]) ∧ Below w.heap.size w w' := by
  have hb1 := usc_bd (x := (m - 2 ^ (z - 1))) (q := q) (s := s) (by omega) (by omega) hq0 hq1 hs0 hs1
  rw [h1.out] at hb1
  have hb2 := usc_bd (x := (m + 2 ^ (z - 1))) (q := q) (s := s) (by omega) (by omega) hq0 hq1 hs0 hs1
  rw [h2.out] at hb2
  have hb3 := usc_bd (x := m) (q := q) (s := s) (by omega) (by omega) hq0 hq1 hs0 hs1
  rw [h3.out] at hb3
  have b1 : (m == 9223372036854775808) = false := by rw [beq_eq_false_iff_ne]; omega
  have b2 : decide (-1085 < e) = false := by simp; omega
  go_enter Tryz.func179, Tryz.ntmps179
  go_wp2_with fail
  refine (log10Pow2_to _ q _ (by omega) (by omega) hq.out).mono ?_
  rintro e' w' ⟨rfl, hw'⟩; rw [hw']; clear hw' w'
  go_wp2_with fail
  refine (log2Pow10_to _ l _ (by omega) (by omega) hl.out).mono ?_
  rintro e' w' ⟨rfl, hw'⟩; rw [hw']; clear hw' w'
  go_wp2_with fail
  refine (prescale_fresh _ _ _ s _ _ _ _ hG hB (by omega) (by omega) (by omega) (by omega) (by omega) (by omega) hs.out).mono ?_
  rintro e' w' ⟨rfl, hw'⟩; rw [hw']; clear hw' w'
  go_wp2_with fail
  refine (usc_calls _ q s U1 _ _ (by omega) (by omega) (by omega) (by omega) (by omega) (by omega) h1.out (by simp) (by simp) (by simp)).mono ?_
  rintro e' w' ⟨rfl, n, hw'⟩; rw [hw']; clear hw' w'
  go_wp2_with fail
  refine (nudge_any _ _ _ (by omega) (by omega) (by omega) (by omega)).mono ?_
  rintro e' w' ⟨rfl, hw'⟩; rw [hw']; clear hw' w'
  go_wp2_with fail
  refine (ceil_any _ _ (by omega) (by omega)).mono ?_
  rintro e' w' ⟨rfl, hw'⟩; rw [hw']; clear hw' w'
  go_wp2_with fail
  refine (usc_calls _ q s U2 _ _ (by omega) (by omega) (by omega) (by omega) (by omega) (by omega) h2.out (by simp) (by simp) (by simp)).mono ?_
  rintro e' w' ⟨rfl, n2, hw'⟩; rw [hw']; clear hw' w'
  go_wp2_with fail
  refine (nudge_any _ _ _ (by omega) (by omega) (by omega) (by omega)).mono ?_
  rintro e' w' ⟨rfl, hw'⟩; rw [hw']; clear hw' w'
  go_wp2_with fail
  refine (floor_any _ _ (by omega) (by omega)).mono ?_
  rintro e' w' ⟨rfl, hw'⟩; rw [hw']; clear hw' w'
  go_wp2_with fail
  · have ht : (U1 + odd + 3) / 4 ≤ (U2 + -odd) / 4 / 10 * 10 := by assumption
    go_ret2
    exact ⟨ret2 (by unfold shortU; rw [if_pos ht]; congr 1; omega), below_drewN ((Below.refl _ _).alloc (Nat.le_refl _) _) _⟩
  · have ht : (U2 + -odd) / 4 / 10 * 10 < (U1 + odd + 3) / 4 := by assumption
    have ht2 : (U1 + odd + 3) / 4 < (U2 + -odd) / 4 := by assumption
    refine (usc_calls _ q s U3 _ _ (by omega) (by omega) (by omega) (by omega) (by omega) (by omega) h3.out (by simp) (by simp) (by simp)).mono ?_
    rintro e' w' ⟨rfl, n3, hw'⟩; rw [hw']; clear hw' w'
    go_wp2_with fail
    refine (round_any _ _ (by omega) (by omega)).mono ?_
    rintro e' w' ⟨rfl, hw'⟩; rw [hw']; clear hw' w'
    go_wp2_with fail
    go_ret2
    exact ⟨ret2 (by unfold shortU; rw [if_neg (by omega), if_pos ht2]), below_drewN ((Below.refl _ _).alloc (Nat.le_refl _) _) _⟩
  · have ht : (U2 + -odd) / 4 / 10 * 10 < (U1 + odd + 3) / 4 := by assumption
    have ht2 : (U2 + -odd) / 4 ≤ (U1 + odd + 3) / 4 := by assumption
    go_ret2
    exact ⟨ret2 (by unfold shortU; rw [if_neg (by omega), if_neg (by omega)]), below_drewN ((Below.refl _ _).alloc (Nat.le_refl _) _) _⟩

set_option maxHeartbeats 800000 in
theorem short64_E {B : Nat} (e : Int) (q l s : Int) (w : World) (hG : Good B w) (hB : B ≤ w.heap.size) (z : Nat) (hz0 : 12 ≤ z) (hz1 : z ≤ 63) (hz : (11 : Int) + (-1085 - e) = z) (hm2 : (2 : Int) ^ (z - 1) ≤ 4611686018427387904) (hm3 : (1 : Int) ≤ 2 ^ (z - 1)) (he0 : -1200 ≤ e) (he1 : e < -1085) 
   (hq0 : -340 ≤ q) (hq1 : q ≤ 340) (hl0 : -2000 ≤ l) (hl1 : l ≤ 2000) (hq : Hid ((e + z) * 78913 / 262144 = q)) (hl : Hid ((-q) * 108853 / 32768 = l)) (hs : Hid (-(e + l + 3) = s)) (hs0 : 1 ≤ s) (hs1 : s ≤ 60)
   (odd U1 U2 U3 : Int) (hodd : bits .and .i64 (wrap64 (9223372036854775808 / 2 ^ z)) 1 = odd) (ho0 : 0 ≤ odd) (ho1 : odd ≤ 1) (h1 : Hid ((usc (9223372036854775808 - 2 ^ (z - 1)) q s : Int) = U1)) (h2 : Hid ((usc (9223372036854775808 + 2 ^ (z - 1)) q s : Int) = U2)) (h3 : Hid ((usc 9223372036854775808 q s : Int) = U3)) :
    Calls Tryz.prog 179 #[.int .u64 9223372036854775808, .int .i64 e] w fun e' w' => e' = .returned (.tuple #[.int .u64 (shortU U1 U2 U3 odd q).1, .int .i64 (shortU U1 U2 U3 odd q).2]) ∧ Below w.heap.size w w' := by
  have hb1 := usc_bd (x := (9223372036854775808 - 2 ^ (z - 1))) (q := q) (s := s) (by omega) (by omega) hq0 hq1 hs0 hs1
  rw [h1.out] at hb1
  have hb2 := usc_bd (x := (9223372036854775808 + 2 ^ (z - 1))) (q := q) (s := s) (by omega) (by omega) hq0 hq1 hs0 hs1
  rw [h2.out] at hb2
  have hb3 := usc_bd (x := 9223372036854775808) (q := q) (s := s) (by omega) (by omega) hq0 hq1 hs0 hs1
  rw [h3.out] at hb3
  have b2 : decide (-1085 < e) = false := by simp; omega
  go_enter Tryz.func179, Tryz.ntmps179
  go_wp2_with fail
  refine (log10Pow2_to _ q _ (by omega) (by omega) hq.out).mono ?_
  rintro e' w' ⟨rfl, hw'⟩; rw [hw']; clear hw' w'
  go_wp2_with fail
  refine (log2Pow10_to _ l _ (by omega) (by omega) hl.out).mono ?_
  rintro e' w' ⟨rfl, hw'⟩; rw [hw']; clear hw' w'
  go_wp2_with fail
  refine (prescale_fresh _ _ _ s _ _ _ _ hG hB (by omega) (by omega) (by omega) (by omega) (by omega) (by omega) hs.out).mono ?_
  rintro e' w' ⟨rfl, hw'⟩; rw [hw']; clear hw' w'
  go_wp2_with fail
  refine (usc_calls _ q s U1 _ _ (by omega) (by omega) (by omega) (by omega) (by omega) (by omega) h1.out (by simp) (by simp) (by simp)).mono ?_
  rintro e' w' ⟨rfl, n, hw'⟩; rw [hw']; clear hw' w'
  go_wp2_with fail
  refine (nudge_any _ _ _ (by omega) (by omega) (by omega) (by omega)).mono ?_
  rintro e' w' ⟨rfl, hw'⟩; rw [hw']; clear hw' w'
  go_wp2_with fail
  refine (ceil_any _ _ (by omega) (by omega)).mono ?_
  rintro e' w' ⟨rfl, hw'⟩; rw [hw']; clear hw' w'
  go_wp2_with fail
  refine (usc_calls _ q s U2 _ _ (by omega) (by omega) (by omega) (by omega) (by omega) (by omega) h2.out (by simp) (by simp) (by simp)).mono ?_
  rintro e' w' ⟨rfl, n2, hw'⟩; rw [hw']; clear hw' w'
  go_wp2_with fail
  refine (nudge_any _ _ _ (by omega) (by omega) (by omega) (by omega)).mono ?_
  rintro e' w' ⟨rfl, hw'⟩; rw [hw']; clear hw' w'
  go_wp2_with fail
  refine (floor_any _ _ (by omega) (by omega)).mono ?_
  rintro e' w' ⟨rfl, hw'⟩; rw [hw']; clear hw' w'
  go_wp2_with fail
  · have ht : (U1 + odd + 3) / 4 ≤ (U2 + -odd) / 4 / 10 * 10 := by assumption
    go_ret2
    exact ⟨ret2 (by unfold shortU; rw [if_pos ht]; congr 1; omega), below_drewN ((Below.refl _ _).alloc (Nat.le_refl _) _) _⟩
  · have ht : (U2 + -odd) / 4 / 10 * 10 < (U1 + odd + 3) / 4 := by assumption
    have ht2 : (U1 + odd + 3) / 4 < (U2 + -odd) / 4 := by assumption
    refine (usc_calls _ q s U3 _ _ (by omega) (by omega) (by omega) (by omega) (by omega) (by omega) h3.out (by simp) (by simp) (by simp)).mono ?_
    rintro e' w' ⟨rfl, n3, hw'⟩; rw [hw']; clear hw' w'
    go_wp2_with fail
    refine (round_any _ _ (by omega) (by omega)).mono ?_
    rintro e' w' ⟨rfl, hw'⟩; rw [hw']; clear hw' w'
    go_wp2_with fail
    go_ret2
    exact ⟨ret2 (by unfold shortU; rw [if_neg (by omega), if_pos ht2]), below_drewN ((Below.refl _ _).alloc (Nat.le_refl _) _) _⟩
  · have ht : (U2 + -odd) / 4 / 10 * 10 < (U1 + odd + 3) / 4 := by assumption
    have ht2 : (U2 + -odd) / 4 ≤ (U1 + odd + 3) / 4 := by assumption
    go_ret2
    exact ⟨ret2 (by unfold shortU; rw [if_neg (by omega), if_neg (by omega)]), below_drewN ((Below.refl _ _).alloc (Nat.le_refl _) _) _⟩

set_option maxHeartbeats 800000 in
theorem short32_A {B : Nat} (e : Int) (q l s : Int) (w : World) (hG : Good B w) (hB : B ≤ w.heap.size) (he0 : -189 < e) (he1 : e ≤ 960) 
   (hq0 : -340 ≤ q) (hq1 : q ≤ 340) (hl0 : -2000 ≤ l) (hl1 : l ≤ 2000) (hq : Hid (((e + 40) * 631305 - 261663) / 2097152 = q)) (hl : Hid ((-q) * 108853 / 32768 = l)) (hs : Hid (-(e + l + 3) = s)) (hs0 : 1 ≤ s) (hs1 : s ≤ 60)
   (odd U1 U2 U3 : Int) (hodd : bits .and .i64 8388608 1 = odd) (ho0 : 0 ≤ odd) (ho1 : odd ≤ 1) (h1 : Hid ((usc 9223371761976868864 q s : Int) = U1)) (h2 : Hid ((usc 9223372586610589696 q s : Int) = U2)) (h3 : Hid ((usc 9223372036854775808 q s : Int) = U3)) :
    Calls Tryz.prog 173 #[.int .u64 9223372036854775808, .int .i64 e] w fun e' w' => e' = .returned (.tuple #[.int .u64 (shortU U1 U2 U3 odd q).1, .int .i64 (shortU U1 U2 U3 odd q).2]) ∧ Below w.heap.size w w' := by
  have hb1 := usc_bd (x := 9223371761976868864) (q := q) (s := s) (by omega) (by omega) hq0 hq1 hs0 hs1
  rw [h1.out] at hb1
  have hb2 := usc_bd (x := 9223372586610589696) (q := q) (s := s) (by omega) (by omega) hq0 hq1 hs0 hs1
  rw [h2.out] at hb2
  have hb3 := usc_bd (x := 9223372036854775808) (q := q) (s := s) (by omega) (by omega) hq0 hq1 hs0 hs1
  rw [h3.out] at hb3
  go_enter Tryz.func173, Tryz.ntmps173
  go_wp2_with fail
  refine (skewed_to _ q _ (by omega) (by omega) hq.out).mono ?_
  rintro e' w' ⟨rfl, hw'⟩; rw [hw']; clear hw' w'
  go_wp2_with fail
  refine (log2Pow10_to _ l _ (by omega) (by omega) hl.out).mono ?_
  rintro e' w' ⟨rfl, hw'⟩; rw [hw']; clear hw' w'
  go_wp2_with fail
  refine (prescale_fresh _ _ _ s _ _ _ _ hG hB (by omega) (by omega) (by omega) (by omega) (by omega) (by omega) hs.out).mono ?_
  rintro e' w' ⟨rfl, hw'⟩; rw [hw']; clear hw' w'
  go_wp2_with fail
  refine (usc_calls _ q s U1 _ _ (by omega) (by omega) (by omega) (by omega) (by omega) (by omega) h1.out (by simp) (by simp) (by simp)).mono ?_
  rintro e' w' ⟨rfl, n, hw'⟩; rw [hw']; clear hw' w'
  go_wp2_with fail
  refine (nudge_any _ _ _ (by omega) (by omega) (by omega) (by omega)).mono ?_
  rintro e' w' ⟨rfl, hw'⟩; rw [hw']; clear hw' w'
  go_wp2_with fail
  refine (ceil_any _ _ (by omega) (by omega)).mono ?_
  rintro e' w' ⟨rfl, hw'⟩; rw [hw']; clear hw' w'
  go_wp2_with fail
  refine (usc_calls _ q s U2 _ _ (by omega) (by omega) (by omega) (by omega) (by omega) (by omega) h2.out (by simp) (by simp) (by simp)).mono ?_
  rintro e' w' ⟨rfl, n2, hw'⟩; rw [hw']; clear hw' w'
  go_wp2_with fail
  refine (nudge_any _ _ _ (by omega) (by omega) (by omega) (by omega)).mono ?_
  rintro e' w' ⟨rfl, hw'⟩; rw [hw']; clear hw' w'
  go_wp2_with fail
  refine (floor_any _ _ (by omega) (by omega)).mono ?_
  rintro e' w' ⟨rfl, hw'⟩; rw [hw']; clear hw' w'
  go_wp2_with fail
  · have ht : (U1 + odd + 3) / 4 ≤ (U2 + -odd) / 4 / 10 * 10 := by assumption
    go_ret2
    exact ⟨ret2 (by unfold shortU; rw [if_pos ht]; congr 1; omega), below_drewN ((Below.refl _ _).alloc (Nat.le_refl _) _) _⟩
  · have ht : (U2 + -odd) / 4 / 10 * 10 < (U1 + odd + 3) / 4 := by assumption
    have ht2 : (U1 + odd + 3) / 4 < (U2 + -odd) / 4 := by assumption
    refine (usc_calls _ q s U3 _ _ (by omega) (by omega) (by omega) (by omega) (by omega) (by omega) h3.out (by simp) (by simp) (by simp)).mono ?_
    rintro e' w' ⟨rfl, n3, hw'⟩; rw [hw']; clear hw' w'
    go_wp2_with fail
    refine (round_any _ _ (by omega) (by omega)).mono ?_
    rintro e' w' ⟨rfl, hw'⟩; rw [hw']; clear hw' w'
    go_wp2_with fail
    go_ret2
    exact ⟨ret2 (by unfold shortU; rw [if_neg (by omega), if_pos ht2]), below_drewN ((Below.refl _ _).alloc (Nat.le_refl _) _) _⟩
  · have ht : (U2 + -odd) / 4 / 10 * 10 < (U1 + odd + 3) / 4 := by assumption
    have ht2 : (U2 + -odd) / 4 ≤ (U1 + odd + 3) / 4 := by assumption
    go_ret2
    exact ⟨ret2 (by unfold shortU; rw [if_neg (by omega), if_neg (by omega)]), below_drewN ((Below.refl _ _).alloc (Nat.le_refl _) _) _⟩

set_option maxHeartbeats 800000 in
theorem short32_B {B : Nat} (m : Int) (e : Int) (q l s : Int) (w : World) (hG : Good B w) (hB : B ≤ w.heap.size) (hm0 : 9223372036854775808 < m) (hm1 : m ≤ 18446742974197923840) (he0 : -189 ≤ e) (he1 : e ≤ 960) 
   (hq0 : -340 ≤ q) (hq1 : q ≤ 340) (hl0 : -2000 ≤ l) (hl1 : l ≤ 2000) (hq : Hid ((e + 40) * 78913 / 262144 = q)) (hl : Hid ((-q) * 108853 / 32768 = l)) (hs : Hid (-(e + l + 3) = s)) (hs0 : 1 ≤ s) (hs1 : s ≤ 60)
   (odd U1 U2 U3 : Int) (hodd : bits .and .i64 (m / 1099511627776) 1 = odd) (ho0 : 0 ≤ odd) (ho1 : odd ≤ 1) (h1 : Hid ((usc (m - 549755813888) q s : Int) = U1)) (h2 : Hid ((usc (m + 549755813888) q s : Int) = U2)) (h3 : Hid ((usc m q s : Int) = U3)) :
    Calls Tryz.prog 173 #[.int .u64 m, .int .i64 e] w fun e' w' => e' = .returned (.tuple #[.int .u64 (shortU U1 U2 U3 odd q).1, .int .i64 (shortU U1 U2 U3 odd q).2]) ∧ Below w.heap.size w w' := by
  have hb1 := usc_bd (x := (m - 549755813888)) (q := q) (s := s) (by omega) (by omega) hq0 hq1 hs0 hs1
  rw [h1.out] at hb1
  have hb2 := usc_bd (x := (m + 549755813888)) (q := q) (s := s) (by omega) (by omega) hq0 hq1 hs0 hs1
  rw [h2.out] at hb2
  have hb3 := usc_bd (x := m) (q := q) (s := s) (by omega) (by omega) hq0 hq1 hs0 hs1
  rw [h3.out] at hb3
  have b2 : (m == 9223372036854775808) = false := by rw [beq_eq_false_iff_ne]; omega
  go_enter Tryz.func173, Tryz.ntmps173
  go_wp2_with fail
  refine (log10Pow2_to _ q _ (by omega) (by omega) hq.out).mono ?_
  rintro e' w' ⟨rfl, hw'⟩; rw [hw']; clear hw' w'
  go_wp2_with fail
  refine (log2Pow10_to _ l _ (by omega) (by omega) hl.out).mono ?_
  rintro e' w' ⟨rfl, hw'⟩; rw [hw']; clear hw' w'
  go_wp2_with fail
  refine (prescale_fresh _ _ _ s _ _ _ _ hG hB (by omega) (by omega) (by omega) (by omega) (by omega) (by omega) hs.out).mono ?_
  rintro e' w' ⟨rfl, hw'⟩; rw [hw']; clear hw' w'
  go_wp2_with fail
  refine (usc_calls _ q s U1 _ _ (by omega) (by omega) (by omega) (by omega) (by omega) (by omega) h1.out (by simp) (by simp) (by simp)).mono ?_
  rintro e' w' ⟨rfl, n, hw'⟩; rw [hw']; clear hw' w'
  go_wp2_with fail
  refine (nudge_any _ _ _ (by omega) (by omega) (by omega) (by omega)).mono ?_
  rintro e' w' ⟨rfl, hw'⟩; rw [hw']; clear hw' w'
  go_wp2_with fail
  refine (ceil_any _ _ (by omega) (by omega)).mono ?_
  rintro e' w' ⟨rfl, hw'⟩; rw [hw']; clear hw' w'
  go_wp2_with fail
  refine (usc_calls _ q s U2 _ _ (by omega) (by omega) (by omega) (by omega) (by omega) (by omega) h2.out (by simp) (by simp) (by simp)).mono ?_
  rintro e' w' ⟨rfl, n2, hw'⟩; rw [hw']; clear hw' w'
  go_wp2_with fail
  refine (nudge_any _ _ _ (by omega) (by omega) (by omega) (by omega)).mono ?_
  rintro e' w' ⟨rfl, hw'⟩; rw [hw']; clear hw' w'
  go_wp2_with fail
  refine (floor_any _ _ (by omega) (by omega)).mono ?_
  rintro e' w' ⟨rfl, hw'⟩; rw [hw']; clear hw' w'
  go_wp2_with fail
  · have ht : (U1 + odd + 3) / 4 ≤ (U2 + -odd) / 4 / 10 * 10 := by assumption
    go_ret2
    exact ⟨ret2 (by unfold shortU; rw [if_pos ht]; congr 1; omega), below_drewN ((Below.refl _ _).alloc (Nat.le_refl _) _) _⟩
  · have ht : (U2 + -odd) / 4 / 10 * 10 < (U1 + odd + 3) / 4 := by assumption
    have ht2 : (U1 + odd + 3) / 4 < (U2 + -odd) / 4 := by assumption
    refine (usc_calls _ q s U3 _ _ (by omega) (by omega) (by omega) (by omega) (by omega) (by omega) h3.out (by simp) (by simp) (by simp)).mono ?_
    rintro e' w' ⟨rfl, n3, hw'⟩; rw [hw']; clear hw' w'
    go_wp2_with fail
    refine (round_any _ _ (by omega) (by omega)).mono ?_
    rintro e' w' ⟨rfl, hw'⟩; rw [hw']; clear hw' w'
    go_wp2_with fail
    go_ret2
    exact ⟨ret2 (by unfold shortU; rw [if_neg (by omega), if_pos ht2]), below_drewN ((Below.refl _ _).alloc (Nat.le_refl _) _) _⟩
  · have ht : (U2 + -odd) / 4 / 10 * 10 < (U1 + odd + 3) / 4 := by assumption
    have ht2 : (U2 + -odd) / 4 ≤ (U1 + odd + 3) / 4 := by assumption
    go_ret2
    exact ⟨ret2 (by unfold shortU; rw [if_neg (by omega), if_neg (by omega)]), below_drewN ((Below.refl _ _).alloc (Nat.le_refl _) _) _⟩

set_option maxHeartbeats 800000 in
theorem short32_D {B : Nat} (q l s : Int) (w : World) (hG : Good B w) (hB : B ≤ w.heap.size) 
   (hq0 : -340 ≤ q) (hq1 : q ≤ 340) (hl0 : -2000 ≤ l) (hl1 : l ≤ 2000) (hq : Hid ((-149) * 78913 / 262144 = q)) (hl : Hid ((-q) * 108853 / 32768 = l)) (hs : Hid (-((-189) + l + 3) = s)) (hs0 : 1 ≤ s) (hs1 : s ≤ 60)
   (odd U1 U2 U3 : Int) (hodd : bits .and .i64 8388608 1 = odd) (ho0 : 0 ≤ odd) (ho1 : odd ≤ 1) (h1 : Hid ((usc 9223371487098961920 q s : Int) = U1)) (h2 : Hid ((usc 9223372586610589696 q s : Int) = U2)) (h3 : Hid ((usc 9223372036854775808 q s : Int) = U3)) :
    Calls Tryz.prog 173 #[.int .u64 9223372036854775808, .int .i64 (-189)] w fun e' w' => e' = .returned (.tuple #[.int .u64 (shortU U1 U2 U3 odd q).1, .int .i64 (shortU U1 U2 U3 odd q).2]) ∧ Below w.heap.size w w' := by
  have hb1 := usc_bd (x := 9223371487098961920) (q := q) (s := s) (by omega) (by omega) hq0 hq1 hs0 hs1
  rw [h1.out] at hb1
  have hb2 := usc_bd (x := 9223372586610589696) (q := q) (s := s) (by omega) (by omega) hq0 hq1 hs0 hs1
  rw [h2.out] at hb2
  have hb3 := usc_bd (x := 9223372036854775808) (q := q) (s := s) (by omega) (by omega) hq0 hq1 hs0 hs1
  rw [h3.out] at hb3
  go_enter Tryz.func173, Tryz.ntmps173
  go_wp2_with fail
  refine (log10Pow2_to _ q _ (by omega) (by omega) hq.out).mono ?_
  rintro e' w' ⟨rfl, hw'⟩; rw [hw']; clear hw' w'
  go_wp2_with fail
  refine (log2Pow10_to _ l _ (by omega) (by omega) hl.out).mono ?_
  rintro e' w' ⟨rfl, hw'⟩; rw [hw']; clear hw' w'
  go_wp2_with fail
  refine (prescale_fresh _ _ _ s _ _ _ _ hG hB (by omega) (by omega) (by omega) (by omega) (by omega) (by omega) hs.out).mono ?_
  rintro e' w' ⟨rfl, hw'⟩; rw [hw']; clear hw' w'
  go_wp2_with fail
  refine (usc_calls _ q s U1 _ _ (by omega) (by omega) (by omega) (by omega) (by omega) (by omega) h1.out (by simp) (by simp) (by simp)).mono ?_
  rintro e' w' ⟨rfl, n, hw'⟩; rw [hw']; clear hw' w'
  go_wp2_with fail
  refine (nudge_any _ _ _ (by omega) (by omega) (by omega) (by omega)).mono ?_
  rintro e' w' ⟨rfl, hw'⟩; rw [hw']; clear hw' w'
  go_wp2_with fail
  refine (ceil_any _ _ (by omega) (by omega)).mono ?_
  rintro e' w' ⟨rfl, hw'⟩; rw [hw']; clear hw' w'
  go_wp2_with fail
  refine (usc_calls _ q s U2 _ _ (by omega) (by omega) (by omega) (by omega) (by omega) (by omega) h2.out (by simp) (by simp) (by simp)).mono ?_
  rintro e' w' ⟨rfl, n2, hw'⟩; rw [hw']; clear hw' w'
  go_wp2_with fail
  refine (nudge_any _ _ _ (by omega) (by omega) (by omega) (by omega)).mono ?_
  rintro e' w' ⟨rfl, hw'⟩; rw [hw']; clear hw' w'
  go_wp2_with fail
  refine (floor_any _ _ (by omega) (by omega)).mono ?_
  rintro e' w' ⟨rfl, hw'⟩; rw [hw']; clear hw' w'
  go_wp2_with fail
  · have ht : (U1 + odd + 3) / 4 ≤ (U2 + -odd) / 4 / 10 * 10 := by assumption
    go_ret2
    exact ⟨ret2 (by unfold shortU; rw [if_pos ht]; congr 1; omega), below_drewN ((Below.refl _ _).alloc (Nat.le_refl _) _) _⟩
  · have ht : (U2 + -odd) / 4 / 10 * 10 < (U1 + odd + 3) / 4 := by assumption
    have ht2 : (U1 + odd + 3) / 4 < (U2 + -odd) / 4 := by assumption
    refine (usc_calls _ q s U3 _ _ (by omega) (by omega) (by omega) (by omega) (by omega) (by omega) h3.out (by simp) (by simp) (by simp)).mono ?_
    rintro e' w' ⟨rfl, n3, hw'⟩; rw [hw']; clear hw' w'
    go_wp2_with fail
    refine (round_any _ _ (by omega) (by omega)).mono ?_
    rintro e' w' ⟨rfl, hw'⟩; rw [hw']; clear hw' w'
    go_wp2_with fail
    go_ret2
    exact ⟨ret2 (by unfold shortU; rw [if_neg (by omega), if_pos ht2]), below_drewN ((Below.refl _ _).alloc (Nat.le_refl _) _) _⟩
  · have ht : (U2 + -odd) / 4 / 10 * 10 < (U1 + odd + 3) / 4 := by assumption
    have ht2 : (U2 + -odd) / 4 ≤ (U1 + odd + 3) / 4 := by assumption
    go_ret2
    exact ⟨ret2 (by unfold shortU; rw [if_neg (by omega), if_neg (by omega)]), below_drewN ((Below.refl _ _).alloc (Nat.le_refl _) _) _⟩

set_option maxHeartbeats 800000 in
theorem short32_C {B : Nat} (m : Int) (e : Int) (q l s : Int) (w : World) (hG : Good B w) (hB : B ≤ w.heap.size) (z : Nat) (hz0 : 41 ≤ z) (hz1 : z ≤ 63) (hz : (40 : Int) + (-189 - e) = z) (hm0 : 9223372036854775808 < m) (hm1 : m + 2 ^ (z - 1) < 18446744073709551616) (hm2 : (2 : Int) ^ (z - 1) ≤ 4611686018427387904) (hm3 : (1 : Int) ≤ 2 ^ (z - 1)) (he0 : -1200 ≤ e) (he1 : e < -189) 
   (hq0 : -340 ≤ q) (hq1 : q ≤ 340) (hl0 : -2000 ≤ l) (hl1 : l ≤ 2000) (hq : Hid ((e + z) * 78913 / 262144 = q)) (hl : Hid ((-q) * 108853 / 32768 = l)) (hs : Hid (-(e + l + 3) = s)) (hs0 : 1 ≤ s) (hs1 : s ≤ 60)
   (odd U1 U2 U3 : Int) (hodd : bits .and .i64 (wrap64 (m / 2 ^ z)) 1 = odd) (ho0 : 0 ≤ odd) (ho1 : odd ≤ 1) (h1 : Hid ((usc (m - 2 ^ (z - 1)) q s : Int) = U1)) (h2 : Hid ((usc (m + 2 ^ (z - 1)) q s : Int) = U2)) (h3 : Hid ((usc m q s : Int) = U3)) :
    Calls Tryz.prog 173 #[.int .u64 m, .int .i64 e] w fun e' w' => e' = .returned (.tuple #[.int .u64 (shortU U1 U2 U3 odd q).1, .int .i64 (shortU U1 U2 U3 odd q).2]) ∧ Below w.heap.size w w' := by
  have hb1 := usc_bd (x := (m - 2 ^ (z - 1))) (q := q) (s := s) (by omega) (by omega) hq0 hq1 hs0 hs1
  rw [h1.out] at hb1
  have hb2 := usc_bd (x := (m + 2 ^ (z - 1))) (q := q) (s := s) (by omega) (by omega) hq0 hq1 hs0 hs1
  rw [h2.out] at hb2
  have hb3 := usc_bd (x := m) (q := q) (s := s) (by omega) (by omega) hq0 hq1 hs0 hs1
  rw [h3.out] at hb3
  have b1 : (m == 9223372036854775808) = false := by rw [beq_eq_false_iff_ne]; omega
  have b2 : decide (-189 < e) = false := by simp; omega
  go_enter Tryz.func173, Tryz.ntmps173
  go_wp2_with fail
  refine (log10Pow2_to _ q _ (by omega) (by omega) hq.out).mono ?_
  rintro e' w' ⟨rfl, hw'⟩; rw [hw']; clear hw' w'
  go_wp2_with fail
  refine (log2Pow10_to _ l _ (by omega) (by omega) hl.out).mono ?_
  rintro e' w' ⟨rfl, hw'⟩; rw [hw']; clear hw' w'
  go_wp2_with fail
  refine (prescale_fresh _ _ _ s _ _ _ _ hG hB (by omega) (by omega) (by omega) (by omega) (by omega) (by omega) hs.out).mono ?_
  rintro e' w' ⟨rfl, hw'⟩; rw [hw']; clear hw' w'
  go_wp2_with fail
  refine (usc_calls _ q s U1 _ _ (by omega) (by omega) (by omega) (by omega) (by omega) (by omega) h1.out (by simp) (by simp) (by simp)).mono ?_
  rintro e' w' ⟨rfl, n, hw'⟩; rw [hw']; clear hw' w'
  go_wp2_with fail
  refine (nudge_any _ _ _ (by omega) (by omega) (by omega) (by omega)).mono ?_
  rintro e' w' ⟨rfl, hw'⟩; rw [hw']; clear hw' w'
  go_wp2_with fail
  refine (ceil_any _ _ (by omega) (by omega)).mono ?_
  rintro e' w' ⟨rfl, hw'⟩; rw [hw']; clear hw' w'
  go_wp2_with fail
  refine (usc_calls _ q s U2 _ _ (by omega) (by omega) (by omega) (by omega) (by omega) (by omega) h2.out (by simp) (by simp) (by simp)).mono ?_
  rintro e' w' ⟨rfl, n2, hw'⟩; rw [hw']; clear hw' w'
  go_wp2_with fail
  refine (nudge_any _ _ _ (by omega) (by omega) (by omega) (by omega)).mono ?_
  rintro e' w' ⟨rfl, hw'⟩; rw [hw']; clear hw' w'
  go_wp2_with fail
  refine (floor_any _ _ (by omega) (by omega)).mono ?_
  rintro e' w' ⟨rfl, hw'⟩; rw [hw']; clear hw' w'
  go_wp2_with fail
  · have ht : (U1 + odd + 3) / 4 ≤ (U2 + -odd) / 4 / 10 * 10 := by assumption
    go_ret2
    exact ⟨ret2 (by unfold shortU; rw [if_pos ht]; congr 1; omega), below_drewN ((Below.refl _ _).alloc (Nat.le_refl _) _) _⟩
  · have ht : (U2 + -odd) / 4 / 10 * 10 < (U1 + odd + 3) / 4 := by assumption
    have ht2 : (U1 + odd + 3) / 4 < (U2 + -odd) / 4 := by assumption
    refine (usc_calls _ q s U3 _ _ (by omega) (by omega) (by omega) (by omega) (by omega) (by omega) h3.out (by simp) (by simp) (by simp)).mono ?_
    rintro e' w' ⟨rfl, n3, hw'⟩; rw [hw']; clear hw' w'
    go_wp2_with fail
    refine (round_any _ _ (by omega) (by omega)).mono ?_
    rintro e' w' ⟨rfl, hw'⟩; rw [hw']; clear hw' w'
    go_wp2_with fail
    go_ret2
    exact ⟨ret2 (by unfold shortU; rw [if_neg (by omega), if_pos ht2]), below_drewN ((Below.refl _ _).alloc (Nat.le_refl _) _) _⟩
  · have ht : (U2 + -odd) / 4 / 10 * 10 < (U1 + odd + 3) / 4 := by assumption
    have ht2 : (U2 + -odd) / 4 ≤ (U1 + odd + 3) / 4 := by assumption
    go_ret2
    exact ⟨ret2 (by unfold shortU; rw [if_neg (by omega), if_neg (by omega)]), below_drewN ((Below.refl _ _).alloc (Nat.le_refl _) _) _⟩

set_option maxHeartbeats 800000 in
theorem short32_E {B : Nat} (e : Int) (q l s : Int) (w : World) (hG : Good B w) (hB : B ≤ w.heap.size) (z : Nat) (hz0 : 41 ≤ z) (hz1 : z ≤ 63) (hz : (40 : Int) + (-189 - e) = z) (hm2 : (2 : Int) ^ (z - 1) ≤ 4611686018427387904) (hm3 : (1 : Int) ≤ 2 ^ (z - 1)) (he0 : -1200 ≤ e) (he1 : e < -189) 
   (hq0 : -340 ≤ q) (hq1 : q ≤ 340) (hl0 : -2000 ≤ l) (hl1 : l ≤ 2000) (hq : Hid ((e + z) * 78913 / 262144 = q)) (hl : Hid ((-q) * 108853 / 32768 = l)) (hs : Hid (-(e + l + 3) = s)) (hs0 : 1 ≤ s) (hs1 : s ≤ 60)
   (odd U1 U2 U3 : Int) (hodd : bits .and .i64 (wrap64 (9223372036854775808 / 2 ^ z)) 1 = odd) (ho0 : 0 ≤ odd) (ho1 : odd ≤ 1) (h1 : Hid ((usc (9223372036854775808 - 2 ^ (z - 1)) q s : Int) = U1)) (h2 : Hid ((usc (9223372036854775808 + 2 ^ (z - 1)) q s : Int) = U2)) (h3 : Hid ((usc 9223372036854775808 q s : Int) = U3)) :
    Calls Tryz.prog 173 #[.int .u64 9223372036854775808, .int .i64 e] w fun e' w' => e' = .returned (.tuple #[.int .u64 (shortU U1 U2 U3 odd q).1, .int .i64 (shortU U1 U2 U3 odd q).2]) ∧ Below w.heap.size w w' := by
  have hb1 := usc_bd (x := (9223372036854775808 - 2 ^ (z - 1))) (q := q) (s := s) (by omega) (by omega) hq0 hq1 hs0 hs1
  rw [h1.out] at hb1
  have hb2 := usc_bd (x := (9223372036854775808 + 2 ^ (z - 1))) (q := q) (s := s) (by omega) (by omega) hq0 hq1 hs0 hs1
  rw [h2.out] at hb2
  have hb3 := usc_bd (x := 9223372036854775808) (q := q) (s := s) (by omega) (by omega) hq0 hq1 hs0 hs1
  rw [h3.out] at hb3
  have b2 : decide (-189 < e) = false := by simp; omega
  go_enter Tryz.func173, Tryz.ntmps173
  go_wp2_with fail
  refine (log10Pow2_to _ q _ (by omega) (by omega) hq.out).mono ?_
  rintro e' w' ⟨rfl, hw'⟩; rw [hw']; clear hw' w'
  go_wp2_with fail
  refine (log2Pow10_to _ l _ (by omega) (by omega) hl.out).mono ?_
  rintro e' w' ⟨rfl, hw'⟩; rw [hw']; clear hw' w'
  go_wp2_with fail
  refine (prescale_fresh _ _ _ s _ _ _ _ hG hB (by omega) (by omega) (by omega) (by omega) (by omega) (by omega) hs.out).mono ?_
  rintro e' w' ⟨rfl, hw'⟩; rw [hw']; clear hw' w'
  go_wp2_with fail
  refine (usc_calls _ q s U1 _ _ (by omega) (by omega) (by omega) (by omega) (by omega) (by omega) h1.out (by simp) (by simp) (by simp)).mono ?_
  rintro e' w' ⟨rfl, n, hw'⟩; rw [hw']; clear hw' w'
  go_wp2_with fail
  refine (nudge_any _ _ _ (by omega) (by omega) (by omega) (by omega)).mono ?_
  rintro e' w' ⟨rfl, hw'⟩; rw [hw']; clear hw' w'
  go_wp2_with fail
  refine (ceil_any _ _ (by omega) (by omega)).mono ?_
  rintro e' w' ⟨rfl, hw'⟩; rw [hw']; clear hw' w'
  go_wp2_with fail
  refine (usc_calls _ q s U2 _ _ (by omega) (by omega) (by omega) (by omega) (by omega) (by omega) h2.out (by simp) (by simp) (by simp)).mono ?_
  rintro e' w' ⟨rfl, n2, hw'⟩; rw [hw']; clear hw' w'
  go_wp2_with fail
  refine (nudge_any _ _ _ (by omega) (by omega) (by omega) (by omega)).mono ?_
  rintro e' w' ⟨rfl, hw'⟩; rw [hw']; clear hw' w'
  go_wp2_with fail
  refine (floor_any _ _ (by omega) (by omega)).mono ?_
  rintro e' w' ⟨rfl, hw'⟩; rw [hw']; clear hw' w'
  go_wp2_with fail
  · have ht : (U1 + odd + 3) / 4 ≤ (U2 + -odd) / 4 / 10 * 10 := by assumption
    go_ret2
    exact ⟨ret2 (by unfold shortU; rw [if_pos ht]; congr 1; omega), below_drewN ((Below.refl _ _).alloc (Nat.le_refl _) _) _⟩
  · have ht : (U2 + -odd) / 4 / 10 * 10 < (U1 + odd + 3) / 4 := by assumption
    have ht2 : (U1 + odd + 3) / 4 < (U2 + -odd) / 4 := by assumption
    refine (usc_calls _ q s U3 _ _ (by omega) (by omega) (by omega) (by omega) (by omega) (by omega) h3.out (by simp) (by simp) (by simp)).mono ?_
    rintro e' w' ⟨rfl, n3, hw'⟩; rw [hw']; clear hw' w'
    go_wp2_with fail
    refine (round_any _ _ (by omega) (by omega)).mono ?_
    rintro e' w' ⟨rfl, hw'⟩; rw [hw']; clear hw' w'
    go_wp2_with fail
    go_ret2
    exact ⟨ret2 (by unfold shortU; rw [if_neg (by omega), if_pos ht2]), below_drewN ((Below.refl _ _).alloc (Nat.le_refl _) _) _⟩
  · have ht : (U2 + -odd) / 4 / 10 * 10 < (U1 + odd + 3) / 4 := by assumption
    have ht2 : (U2 + -odd) / 4 ≤ (U1 + odd + 3) / 4 := by assumption
    go_ret2
    exact ⟨ret2 (by unfold shortU; rw [if_neg (by omega), if_neg (by omega)]), below_drewN ((Below.refl _ _).alloc (Nat.le_refl _) _) _⟩
end Go.Proofs.YtdfodfflkmcgpaaGreatDoor
/- shortFloat, of both widths, at a significand moved up to the highest bit: the shortest digits as one function of the significand and its power of two. -/
namespace Go.Proofs.YtdfodfflkmcgpaaGreatDoor
open Go.RowKit Uscale Pow10
set_option linter.unusedVariables false

theorem i64_andMask (n : Int) (k : Nat) (hk : k ≤ 62) (M : Int) (hM : M = 2 ^ k - 1) : bits .and .i64 n M = n % 2 ^ k := by
  have hp : (2 : Nat) ^ k ≤ 2 ^ 62 := Nat.pow_le_pow_right (by omega) hk
  have hp0 := Nat.two_pow_pos k
  have h62 : (2 : Nat) ^ 62 = 4611686018427387904 := rfl
  have hc : ((2 : Int) ^ k) = ((2 ^ k : Nat) : Int) := by simp
  have hMn : M = ((2 ^ k - 1 : Nat) : Int) := by rw [hM, hc]; omega
  have h127 : (BitVec.ofInt 64 M).toNat = 2 ^ k - 1 := by
    rw [hMn, BitVec.toNat_ofInt]; omega
  have key : (BitVec.ofInt 64 n &&& BitVec.ofInt 64 M).toNat = (n % ((2 ^ 64 : Nat) : Int)).toNat % 2 ^ k := by
    rw [BitVec.toNat_and, BitVec.toNat_ofInt, h127, Nat.and_two_pow_sub_one_eq_mod]
  show IntKind.i64.wrap ((BitVec.ofInt 64 n &&& BitVec.ofInt 64 M).toNat : Nat) = n % 2 ^ k
  rw [key, IntKind.wrap_i64, hc]
  have hdvd : (((2 ^ k : Nat)) : Int) ∣ ((2 ^ 64 : Nat) : Int) := Int.natCast_dvd_natCast.2 (Nat.pow_dvd_pow 2 (by omega))
  have h1 : (((n % ((2 ^ 64 : Nat) : Int)).toNat % 2 ^ k : Nat) : Int) = n % ((2 ^ k : Nat) : Int) := by
    rw [Int.natCast_emod, Int.toNat_of_nonneg (Int.emod_nonneg _ (by omega)), Int.emod_emod_of_dvd _ hdvd]
  rw [h1]
  have h2 := Int.emod_nonneg n (show ((2 ^ k : Nat) : Int) ≠ 0 by omega)
  have h3 := Int.emod_lt_of_pos n (show (0 : Int) < ((2 ^ k : Nat) : Int) by omega)
  omega
theorem i64_and1 (n : Int) : bits .and .i64 n 1 = n % 2 := i64_andMask n 1 (by omega) 1 (by decide)

theorem bitLen_bounds {x : Nat} (h0 : x ≠ 0) (h1 : x < 18446744073709551616) : 1 ≤ Lib.bitLen x ∧ Lib.bitLen x ≤ 64 ∧ 2 ^ (Lib.bitLen x - 1) ≤ x ∧ x < 2 ^ Lib.bitLen x := by
  have h2 : x < 2 ^ 64 := h1
  have := Lib.bitLenAux_bounds 64 x h2 h0
  exact ⟨this.1, Lib.bitLen_le x 64 (by omega) h2, this.2⟩

/-- how far a significand is moved up. -/
def sh (mant : Nat) : Nat := 64 - Lib.bitLen mant
theorem sh_bounds {x : Nat} (h0 : x ≠ 0) (h1 : x < 18446744073709551616) : sh x ≤ 63 ∧ 9223372036854775808 ≤ x * 2 ^ sh x ∧ x * 2 ^ sh x < 18446744073709551616 := by
  obtain ⟨a, b, c, d⟩ := bitLen_bounds h0 h1
  unfold sh
  refine ⟨by omega, ?_, ?_⟩
  · have := Nat.mul_le_mul_right (2 ^ (64 - Lib.bitLen x)) c
    rw [← Nat.pow_add, show Lib.bitLen x - 1 + (64 - Lib.bitLen x) = 63 by omega] at this
    exact this
  · have := Nat.mul_lt_mul_of_pos_right d (Nat.two_pow_pos (64 - Lib.bitLen x))
    rw [← Nat.pow_add, show Lib.bitLen x + (64 - Lib.bitLen x) = 64 by omega] at this
    exact this
theorem sh_of {x k : Nat} (h0 : 2 ^ k ≤ x) (h1 : x < 2 ^ (k + 1)) (hk : k ≤ 63) : sh x = 63 - k := by
  have h64 : (2 : Nat) ^ (k + 1) ≤ 2 ^ 64 := Nat.pow_le_pow_right (by omega) (by omega)
  have hx : x < 18446744073709551616 := Nat.lt_of_lt_of_le h1 h64
  have hx0 : x ≠ 0 := by have := Nat.two_pow_pos k; omega
  obtain ⟨a, b, c, d⟩ := bitLen_bounds hx0 hx
  have e1 : k < Lib.bitLen x := by
    rcases Nat.lt_or_ge k (Lib.bitLen x) with h | h
    · exact h
    · have := Nat.pow_le_pow_right (show 0 < 2 by omega) h; omega
  have e2 : Lib.bitLen x ≤ k + 1 := by
    rcases Nat.lt_or_ge (k + 1) (Lib.bitLen x) with h | h
    · have := Nat.pow_le_pow_right (show 0 < 2 by omega) (show k + 1 ≤ Lib.bitLen x - 1 by omega); omega
    · exact h
  unfold sh; omega
theorem sh_lt {x k : Nat} (h0 : x ≠ 0) (h1 : x < 2 ^ k) (hk : k ≤ 63) : 63 - k < sh x := by
  have h64 : (2 : Nat) ^ k ≤ 2 ^ 63 := Nat.pow_le_pow_right (by omega) hk
  have h63 : (2 : Nat) ^ 63 = 9223372036854775808 := rfl
  obtain ⟨a, b, c, d⟩ := bitLen_bounds h0 (by omega)
  have : Lib.bitLen x ≤ k := by
    rcases Nat.lt_or_ge k (Lib.bitLen x) with h | h
    · have := Nat.pow_le_pow_right (show 0 < 2 by omega) (show k ≤ Lib.bitLen x - 1 by omega); omega
    · exact h
  unfold sh; omega

def shortQ (A : Bool) (u : Int) : Int := if A then (u * 631305 - 261663) / 2097152 else u * 78913 / 262144
def shortS (q u : Int) (s : Nat) : Int := s - u - (-q) * 108853 / 32768 - 3
/-- the shortest digits of 'mant' times two to the u, as the code reckons them; A: is the number below it nearer? -/
def shortR (mant : Nat) (u : Int) (A : Bool) : Int × Int :=
  shortU (usc ((mant : Int) * 2 ^ sh mant - (if A then 2 ^ (sh mant - 2) else 2 ^ (sh mant - 1))) (shortQ A u) (shortS (shortQ A u) u (sh mant)))
    (usc ((mant : Int) * 2 ^ sh mant + 2 ^ (sh mant - 1)) (shortQ A u) (shortS (shortQ A u) u (sh mant)))
    (usc ((mant : Int) * 2 ^ sh mant) (shortQ A u) (shortS (shortQ A u) u (sh mant))) ((mant % 2 : Nat) : Int) (shortQ A u)

theorem q_no {x u : Int} (h : x = u) : Hid (x * 78913 / 262144 = shortQ false u) := by subst h; exact Lib.hid rfl
theorem q_yes {x u : Int} (h : x = u) : Hid ((x * 631305 - 261663) / 2097152 = shortQ true u) := by subst h; exact Lib.hid rfl
theorem s_eq {e q u : Int} {s : Nat} (h : e = u - s) : Hid (-(e + (-q) * 108853 / 32768 + 3) = shortS q u s) := by
  subst h
  exact Lib.hid (by unfold shortS; omega)
theorem short_bd (A : Bool) (u : Int) (s : Nat) (h : (s = 11 ∧ -1074 ≤ u ∧ u ≤ 971) ∨ (12 ≤ s ∧ s ≤ 63 ∧ u = -1074) ∨ (s = 40 ∧ -149 ≤ u ∧ u ≤ 104) ∨ (41 ≤ s ∧ s ≤ 63 ∧ u = -149)) :
    -340 ≤ shortQ A u ∧ shortQ A u ≤ 340 ∧ -2000 ≤ (-shortQ A u) * 108853 / 32768 ∧ (-shortQ A u) * 108853 / 32768 ≤ 2000 ∧ 1 ≤ shortS (shortQ A u) u s ∧ shortS (shortQ A u) u s ≤ 60 := by
  unfold shortS shortQ
  cases A <;> simp only [if_true, if_false, Bool.false_eq_true] <;> omega

set_option maxRecDepth 100000 in
theorem short64_all {B : Nat} (mant : Nat) (u : Int) (w : World) (hG : Good B w) (hB : B ≤ w.heap.size) (hm0 : mant ≠ 0) (hm1 : mant < 9007199254740992) (hu0 : -1074 ≤ u) (hu1 : u ≤ 971) (hsub : mant < 4503599627370496 → u = -1074) :
    Calls Tryz.prog 179 #[.int .u64 ((mant : Int) * 2 ^ sh mant), .int .i64 (u - sh mant)] w fun e' w' => e' = .returned (.tuple #[.int .u64 (shortR mant u (decide (mant = 4503599627370496 ∧ -1074 < u))).1, .int .i64 (shortR mant u (decide (mant = 4503599627370496 ∧ -1074 < u))).2]) ∧ Below w.heap.size w w' := by
  have o0 : (0 : Int) ≤ ((mant % 2 : Nat) : Int) := Int.natCast_nonneg _
  have o1 : ((mant % 2 : Nat) : Int) ≤ 1 := by omega
  rcases Nat.lt_or_ge mant 4503599627370496 with hlt | hge
  · obtain rfl := hsub hlt
    have hs := sh_lt (k := 52) hm0 hlt (by omega)
    obtain ⟨s1, s2, s3⟩ := sh_bounds hm0 (by omega)
    have hA : decide (mant = 4503599627370496 ∧ (-1074 : Int) < -1074) = false := by simp; try omega
    rw [hA]
    unfold shortR
    obtain ⟨b1, b2, b3, b4, b5, b6⟩ := short_bd false (-1074) (sh mant) (by omega)
    generalize hS : sh mant = s at *
    have hm : ((mant : Int) * 2 ^ s) = ((mant * 2 ^ s : Nat) : Int) := by simp
    have hhalf : ((2 : Int) ^ (s - 1)) = ((2 ^ (s - 1) : Nat) : Int) := by simp
    have h2 : (2 : Nat) ^ (s - 1) ≤ 2 ^ 62 := Nat.pow_le_pow_right (by omega) (by omega)
    have h62 : (2 : Nat) ^ 62 = 4611686018427387904 := rfl
    have hp := Nat.two_pow_pos (s - 1)
    have hps : (2 : Nat) ^ s = 2 * 2 ^ (s - 1) := by
      have : (2 : Nat) ^ s = 2 ^ (s - 1 + 1) := by congr 1; omega
      rw [this, Nat.pow_succ]; omega
    have hdiv : ((mant * 2 ^ s : Nat) : Int) / 2 ^ s = (mant : Int) := by
      have : ((mant * 2 ^ s : Nat) : Int) / 2 ^ s = ((mant * 2 ^ s / 2 ^ s : Nat) : Int) := by simp
      rw [this, Nat.mul_div_cancel _ (Nat.two_pow_pos s)]
    have hw64 : wrap64 (mant : Int) = mant := by unfold wrap64; omega
    have hodd : bits .and .i64 (wrap64 (((mant * 2 ^ s : Nat) : Int) / 2 ^ s)) 1 = ((mant % 2 : Nat) : Int) := by
      rw [hdiv, hw64, i64_and1]; omega
    have htop : mant * 2 ^ s + 2 ^ (s - 1) < 18446744073709551616 := by
      -- mant + 1 ≤ 2 ^ k, and the last is moved to 2 ^ 64 at most
      have e1 : mant * 2 ^ s + 2 ^ s ≤ 18446744073709551616 := by
        rcases Nat.lt_or_ge (mant * 2 ^ s + 2 ^ s) 18446744073709551617 with h | h
        · omega
        · exfalso
          have e : (18446744073709551616 : Nat) = 2 ^ (64 - s) * 2 ^ s := by rw [← Nat.pow_add, show 64 - s + s = 64 by omega]
          have e2 : mant < 2 ^ (64 - s) := Nat.lt_of_mul_lt_mul_right (a := 2 ^ s) (by rw [← e]; exact s3)
          have e3 := Nat.mul_le_mul_right (2 ^ s) (Nat.succ_le_of_lt e2)
          rw [← e, Nat.succ_mul] at e3
          omega
      omega
    simp only [Bool.false_eq_true, if_false]
    rw [hm]
    rcases Nat.lt_or_ge 9223372036854775808 (mant * 2 ^ s) with hgt | heq
    · have H := short64_C (B := B) ((mant * 2 ^ s : Nat) : Int) (-1074 - s) (shortQ false (-1074)) ((-(shortQ false (-1074))) * 108853 / 32768) (shortS (shortQ false (-1074)) (-1074) s) w hG hB s (by omega) s1
      have H1 := H (by omega)
      have H2 := H1 (by omega)
      have H3 := H2 (by rw [hhalf]; omega)
      have H4 := H3 (by rw [hhalf]; omega) (by rw [hhalf]; omega)
      have H5 := H4 (by omega) (by omega)
      have H6 := H5 b1 b2 b3 b4
      have H7 := H6 (q_no (by omega)) (Lib.hid rfl)
      have H8 := H7 (s_eq rfl) b5 b6
      exact H8 _ _ _ _ hodd o0 o1 (Lib.hid rfl) (Lib.hid rfl) (Lib.hid rfl)
    · have heq : mant * 2 ^ s = 9223372036854775808 := by omega
      rw [heq] at hodd ⊢
      have H := short64_E (B := B) (-1074 - s) (shortQ false (-1074)) ((-(shortQ false (-1074))) * 108853 / 32768) (shortS (shortQ false (-1074)) (-1074) s) w hG hB s (by omega) s1
      have H1 := H (by omega)
      have H2 := H1 (by rw [hhalf]; omega)
      have H3 := H2 (by rw [hhalf]; omega)
      have H5 := H3 (by omega) (by omega)
      have H6 := H5 b1 b2 b3 b4
      have H7 := H6 (q_no (by omega)) (Lib.hid rfl)
      have H8 := H7 (s_eq rfl) b5 b6
      exact H8 _ _ _ _ hodd o0 o1 (Lib.hid rfl) (Lib.hid rfl) (Lib.hid rfl)
  · have hs : sh mant = 11 := sh_of (k := 52) hge hm1 (by omega)
    unfold shortR
    rw [hs]
    have hm : ((mant : Int) * 2 ^ 11) = (mant : Int) * 2048 := by rfl
    have hq1 : ((2 : Int) ^ (11 - 1)) = 1024 := by rfl
    have hq2 : ((2 : Int) ^ (11 - 2)) = 512 := by rfl
    rw [hm, hq1, hq2]
    rcases Nat.lt_or_ge 4503599627370496 mant with hgt | heq
    · have hA : decide (mant = 4503599627370496 ∧ (-1074 : Int) < u) = false := by simp; omega
      rw [hA]
      obtain ⟨b1, b2, b3, b4, b5, b6⟩ := short_bd false u 11 (by omega)
      have hodd : bits .and .i64 ((mant : Int) * 2048 / 2048) 1 = ((mant % 2 : Nat) : Int) := by
        rw [i64_and1]; omega
      have H := short64_B ((mant : Int) * 2048) (u - 11) (shortQ false u) ((-(shortQ false u)) * 108853 / 32768) (shortS (shortQ false u) u 11) w hG hB (by omega) (by omega) (by omega) (by omega)
        b1 b2 b3 b4 (q_no (by omega)) (Lib.hid rfl) (s_eq (by omega)) b5 b6
      exact H _ _ _ _ hodd o0 o1 (Lib.hid rfl) (Lib.hid rfl) (Lib.hid rfl)
    · obtain rfl : mant = 4503599627370496 := by omega
      rcases Int.lt_or_le (-1074) u with hgt | hle
      · have hA : decide (4503599627370496 = 4503599627370496 ∧ (-1074 : Int) < u) = true := by simp; omega
        rw [hA]
        obtain ⟨b1, b2, b3, b4, b5, b6⟩ := short_bd true u 11 (by omega)
        have H := short64_A (u - 11) (shortQ true u) ((-(shortQ true u)) * 108853 / 32768) (shortS (shortQ true u) u 11) w hG hB (by omega) (by omega)
          b1 b2 b3 b4 (q_yes (by omega)) (Lib.hid rfl) (s_eq (by omega)) b5 b6
        exact H _ _ _ _ (by rw [i64_and1]; rfl) o0 o1 (Lib.hid rfl) (Lib.hid rfl) (Lib.hid rfl)
      · obtain rfl : u = -1074 := by omega
        have hA : decide (4503599627370496 = 4503599627370496 ∧ (-1074 : Int) < -1074) = false := by simp
        rw [hA]
        obtain ⟨b1, b2, b3, b4, b5, b6⟩ := short_bd false (-1074) 11 (by omega)
        have H := short64_D (shortQ false (-1074)) ((-(shortQ false (-1074))) * 108853 / 32768) (shortS (shortQ false (-1074)) (-1074) 11) w hG hB
          b1 b2 b3 b4 (q_no rfl) (Lib.hid rfl) (s_eq (by omega)) b5 b6
        exact H _ _ _ _ (by rw [i64_and1]; rfl) o0 o1 (Lib.hid rfl) (Lib.hid rfl) (Lib.hid rfl)

set_option maxRecDepth 100000 in
theorem short32_all {B : Nat} (mant : Nat) (u : Int) (w : World) (hG : Good B w) (hB : B ≤ w.heap.size) (hm0 : mant ≠ 0) (hm1 : mant < 16777216) (hu0 : -149 ≤ u) (hu1 : u ≤ 104) (hsub : mant < 8388608 → u = -149) :
    Calls Tryz.prog 173 #[.int .u64 ((mant : Int) * 2 ^ sh mant), .int .i64 (u - sh mant)] w fun e' w' => e' = .returned (.tuple #[.int .u64 (shortR mant u (decide (mant = 8388608 ∧ -149 < u))).1, .int .i64 (shortR mant u (decide (mant = 8388608 ∧ -149 < u))).2]) ∧ Below w.heap.size w w' := by
  have o0 : (0 : Int) ≤ ((mant % 2 : Nat) : Int) := Int.natCast_nonneg _
  have o1 : ((mant % 2 : Nat) : Int) ≤ 1 := by omega
  rcases Nat.lt_or_ge mant 8388608 with hlt | hge
  · obtain rfl := hsub hlt
    have hs := sh_lt (k := 23) hm0 hlt (by omega)
    obtain ⟨s1, s2, s3⟩ := sh_bounds hm0 (by omega)
    have hA : decide (mant = 8388608 ∧ (-149 : Int) < -149) = false := by simp; try omega
    rw [hA]
    unfold shortR
    obtain ⟨b1, b2, b3, b4, b5, b6⟩ := short_bd false (-149) (sh mant) (by omega)
    generalize hS : sh mant = s at *
    have hm : ((mant : Int) * 2 ^ s) = ((mant * 2 ^ s : Nat) : Int) := by simp
    have hhalf : ((2 : Int) ^ (s - 1)) = ((2 ^ (s - 1) : Nat) : Int) := by simp
    have h2 : (2 : Nat) ^ (s - 1) ≤ 2 ^ 62 := Nat.pow_le_pow_right (by omega) (by omega)
    have h62 : (2 : Nat) ^ 62 = 4611686018427387904 := rfl
    have hp := Nat.two_pow_pos (s - 1)
    have hps : (2 : Nat) ^ s = 2 * 2 ^ (s - 1) := by
      have : (2 : Nat) ^ s = 2 ^ (s - 1 + 1) := by congr 1; omega
      rw [this, Nat.pow_succ]; omega
    have hdiv : ((mant * 2 ^ s : Nat) : Int) / 2 ^ s = (mant : Int) := by
      have : ((mant * 2 ^ s : Nat) : Int) / 2 ^ s = ((mant * 2 ^ s / 2 ^ s : Nat) : Int) := by simp
      rw [this, Nat.mul_div_cancel _ (Nat.two_pow_pos s)]
    have hw64 : wrap64 (mant : Int) = mant := by unfold wrap64; omega
    have hodd : bits .and .i64 (wrap64 (((mant * 2 ^ s : Nat) : Int) / 2 ^ s)) 1 = ((mant % 2 : Nat) : Int) := by
      rw [hdiv, hw64, i64_and1]; omega
    have htop : mant * 2 ^ s + 2 ^ (s - 1) < 18446744073709551616 := by
      -- mant + 1 ≤ 2 ^ k, and the last is moved to 2 ^ 64 at most
      have e1 : mant * 2 ^ s + 2 ^ s ≤ 18446744073709551616 := by
        rcases Nat.lt_or_ge (mant * 2 ^ s + 2 ^ s) 18446744073709551617 with h | h
        · omega
        · exfalso
          have e : (18446744073709551616 : Nat) = 2 ^ (64 - s) * 2 ^ s := by rw [← Nat.pow_add, show 64 - s + s = 64 by omega]
          have e2 : mant < 2 ^ (64 - s) := Nat.lt_of_mul_lt_mul_right (a := 2 ^ s) (by rw [← e]; exact s3)
          have e3 := Nat.mul_le_mul_right (2 ^ s) (Nat.succ_le_of_lt e2)
          rw [← e, Nat.succ_mul] at e3
          omega
      omega
    simp only [Bool.false_eq_true, if_false]
    rw [hm]
    rcases Nat.lt_or_ge 9223372036854775808 (mant * 2 ^ s) with hgt | heq
    · have H := short32_C (B := B) ((mant * 2 ^ s : Nat) : Int) (-149 - s) (shortQ false (-149)) ((-(shortQ false (-149))) * 108853 / 32768) (shortS (shortQ false (-149)) (-149) s) w hG hB s (by omega) s1
      have H1 := H (by omega)
      have H2 := H1 (by omega)
      have H3 := H2 (by rw [hhalf]; omega)
      have H4 := H3 (by rw [hhalf]; omega) (by rw [hhalf]; omega)
      have H5 := H4 (by omega) (by omega)
      have H6 := H5 b1 b2 b3 b4
      have H7 := H6 (q_no (by omega)) (Lib.hid rfl)
      have H8 := H7 (s_eq rfl) b5 b6
      exact H8 _ _ _ _ hodd o0 o1 (Lib.hid rfl) (Lib.hid rfl) (Lib.hid rfl)
    · have heq : mant * 2 ^ s = 9223372036854775808 := by omega
      rw [heq] at hodd ⊢
      have H := short32_E (B := B) (-149 - s) (shortQ false (-149)) ((-(shortQ false (-149))) * 108853 / 32768) (shortS (shortQ false (-149)) (-149) s) w hG hB s (by omega) s1
      have H1 := H (by omega)
      have H2 := H1 (by rw [hhalf]; omega)
      have H3 := H2 (by rw [hhalf]; omega)
      have H5 := H3 (by omega) (by omega)
      have H6 := H5 b1 b2 b3 b4
      have H7 := H6 (q_no (by omega)) (Lib.hid rfl)
      have H8 := H7 (s_eq rfl) b5 b6
      exact H8 _ _ _ _ hodd o0 o1 (Lib.hid rfl) (Lib.hid rfl) (Lib.hid rfl)
  · have hs : sh mant = 40 := sh_of (k := 23) hge hm1 (by omega)
    unfold shortR
    rw [hs]
    have hm : ((mant : Int) * 2 ^ 40) = (mant : Int) * 1099511627776 := by rfl
    have hq1 : ((2 : Int) ^ (40 - 1)) = 549755813888 := by rfl
    have hq2 : ((2 : Int) ^ (40 - 2)) = 274877906944 := by rfl
    rw [hm, hq1, hq2]
    rcases Nat.lt_or_ge 8388608 mant with hgt | heq
    · have hA : decide (mant = 8388608 ∧ (-149 : Int) < u) = false := by simp; omega
      rw [hA]
      obtain ⟨b1, b2, b3, b4, b5, b6⟩ := short_bd false u 40 (by omega)
      have hodd : bits .and .i64 ((mant : Int) * 1099511627776 / 1099511627776) 1 = ((mant % 2 : Nat) : Int) := by
        rw [i64_and1]; omega
      have H := short32_B ((mant : Int) * 1099511627776) (u - 40) (shortQ false u) ((-(shortQ false u)) * 108853 / 32768) (shortS (shortQ false u) u 40) w hG hB (by omega) (by omega) (by omega) (by omega)
        b1 b2 b3 b4 (q_no (by omega)) (Lib.hid rfl) (s_eq (by omega)) b5 b6
      exact H _ _ _ _ hodd o0 o1 (Lib.hid rfl) (Lib.hid rfl) (Lib.hid rfl)
    · obtain rfl : mant = 8388608 := by omega
      rcases Int.lt_or_le (-149) u with hgt | hle
      · have hA : decide (8388608 = 8388608 ∧ (-149 : Int) < u) = true := by simp; omega
        rw [hA]
        obtain ⟨b1, b2, b3, b4, b5, b6⟩ := short_bd true u 40 (by omega)
        have H := short32_A (u - 40) (shortQ true u) ((-(shortQ true u)) * 108853 / 32768) (shortS (shortQ true u) u 40) w hG hB (by omega) (by omega)
          b1 b2 b3 b4 (q_yes (by omega)) (Lib.hid rfl) (s_eq (by omega)) b5 b6
        exact H _ _ _ _ (by rw [i64_and1]; rfl) o0 o1 (Lib.hid rfl) (Lib.hid rfl) (Lib.hid rfl)
      · obtain rfl : u = -149 := by omega
        have hA : decide (8388608 = 8388608 ∧ (-149 : Int) < -149) = false := by simp
        rw [hA]
        obtain ⟨b1, b2, b3, b4, b5, b6⟩ := short_bd false (-149) 40 (by omega)
        have H := short32_D (shortQ false (-149)) ((-(shortQ false (-149))) * 108853 / 32768) (shortS (shortQ false (-149)) (-149) 40) w hG hB
          b1 b2 b3 b4 (q_no rfl) (Lib.hid rfl) (s_eq (by omega)) b5 b6
        exact H _ _ _ _ (by rw [i64_and1]; rfl) o0 o1 (Lib.hid rfl) (Lib.hid rfl) (Lib.hid rfl)
end Go.Proofs.YtdfodfflkmcgpaaGreatDoor
