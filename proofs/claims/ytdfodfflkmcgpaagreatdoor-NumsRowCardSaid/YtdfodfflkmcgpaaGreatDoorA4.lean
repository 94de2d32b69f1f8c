/- The shortest digits of a floating number, as the code reckons them: the three roads of shortFloat, for both widths. -/
import Derived.Test.YtdfodfflkmcgpaaGreatDoorA3
namespace Go.Proofs.YtdfodfflkmcgpaaGreatDoor
open Go.RowKit Uscale Pow10
set_option linter.unusedVariables false
theorem or_bit (a : Nat) (b : Bool) : a ≤ a ||| b.toNat ∧ a ||| b.toNat ≤ a + 1 := by
  cases b
  · simp
  · have := or_one a
    show a ≤ a ||| 1 ∧ a ||| 1 ≤ a + 1
    omega
theorem div_bd {H s : Nat} (hH : 2305843009213693951 ≤ H + 1) (hs : s ≤ 60) : 1 ≤ H / 2 ^ s := by
  have h1 : (2:Nat) ^ s ≤ 2 ^ 60 := Nat.pow_le_pow_right (by omega) hs
  have h2 : (2:Nat) ^ 60 = 1152921504606846976 := rfl
  exact (Nat.le_div_iff_mul_le (Nat.two_pow_pos s)).2 (by omega)
theorem div_bd2 {H s : Nat} (hH : H < 18446744073709551616) (hs : 1 ≤ s) : H / 2 ^ s ≤ 9223372036854775808 := by
  have h1 : 2 * 1 ≤ (2:Nat) ^ s := by
    obtain ⟨k, rfl⟩ : ∃ k, s = k + 1 := ⟨s - 1, by omega⟩
    have := Nat.two_pow_pos k
    rw [Nat.pow_succ]; omega
  have h2 : H / 2 ^ s ≤ H / 2 := Nat.div_le_div_left (by omega) (by omega)
  omega
theorem uscaleF_bd {x hi lo s : Nat} (hx0 : 4611686018427387904 ≤ x) (hx : x < 18446744073709551616) (hhi0 : 9223372036854775808 ≤ hi) (hhi : hi < 18446744073709551616) (hs1 : 1 ≤ s) (hs : s ≤ 60) :
    1 ≤ uscaleF x hi lo s ∧ uscaleF x hi lo s ≤ 9223372036854775809 := by
  have hHb : 4611686018427387904 * 9223372036854775808 ≤ x * hi := Nat.mul_le_mul hx0 hhi0
  have hP : x * hi < 18446744073709551616 * 18446744073709551616 := Nat.mul_lt_mul'' hx hhi
  unfold uscaleF
  have f0 : 2305843009213693952 ≤ x * hi / 18446744073709551616 := by omega
  have f1 : x * hi / 18446744073709551616 < 18446744073709551616 := by omega
  generalize x * hi / 18446744073709551616 = H at *
  split
  · have hb : (decide (x * hi % 18446744073709551616 < x * lo / 18446744073709551616)).toNat ≤ 1 := Bool.toNat_le _
    generalize (decide (x * hi % 18446744073709551616 < x * lo / 18446744073709551616)).toNat = k at *
    have a1 := div_bd (H := H - k) (s := s) (by omega) hs
    have a2 := div_bd2 (H := H - k) (s := s) (by omega) hs1
    have a3 := or_bit ((H - k) / 2 ^ s) (decide (1 < (x * hi % 18446744073709551616 + 18446744073709551616 - x * lo / 18446744073709551616) % 18446744073709551616))
    omega
  · have a1 := div_bd (H := H) (s := s) (by omega) hs
    have a2 := div_bd2 (H := H) (s := s) (by omega) hs1
    have a3 : H / 2 ^ s ≤ H / 2 ^ s ||| 1 ∧ H / 2 ^ s ||| 1 ≤ H / 2 ^ s + 1 := or_bit (H / 2 ^ s) true
    omega

/-- the scaled number by its row of the table. -/
def usc (x q s : Int) : Nat := uscaleF x.toNat (hiOf (-q + 348).toNat) (loOf (-q + 348).toNat) s.toNat
theorem usc_bd {x q s : Int} (hx0 : 4611686018427387904 ≤ x) (hx : x < 18446744073709551616) (hq0 : -340 ≤ q) (hq1 : q ≤ 340) (hs0 : 1 ≤ s) (hs1 : s ≤ 60) : 1 ≤ (usc x q s : Int) ∧ (usc x q s : Int) ≤ 9223372036854775809 := by
  obtain ⟨r1, r2, r3, -, -⟩ := row (i := (-q + 348).toNat) (by omega)
  have := uscaleF_bd (x := x.toNat) (lo := loOf (-q + 348).toNat) (s := s.toNat) (by omega) (by omega) r1 r2 (by omega) (by omega)
  unfold usc; omega
theorem usc_calls (x q s : Int) (U : Int) (b : Nat) (w : World) (hx0 : 4611686018427387904 ≤ x) (hx : x < 18446744073709551616) (hq0 : -340 ≤ q) (hq1 : q ≤ 340) (hs0 : 1 ≤ s) (hs1 : s ≤ 60)
   (hU : (usc x q s : Int) = U)
   (c0 : w.cell? ⟨b, 0, none⟩ = some (.int .u64 (hiOf (-q + 348).toNat))) (c1 : w.cell? ⟨b, 1, none⟩ = some (.int .u64 (loOf (-q + 348).toNat))) (c2 : w.cell? ⟨b, 2, none⟩ = some (.int .i64 s)) :
    Calls Tryz.prog 192 #[.int .u64 x, .pointer (some ⟨b, 0, none⟩)] w fun e w' => e = .returned (.int .u64 U) ∧ ∃ n, w' = w.drewN n := by
  obtain ⟨r1, r2, r3, -, -⟩ := row (i := (-q + 348).toNat) (by omega)
  subst hU
  exact uscale_int x s _ _ b w (by omega) hx r1 r2 r3 (by omega) (by omega) c0 c1 c2

/-- the code's choice out of the two ends and the middle. -/
def shortU (U1 U2 U3 odd q : Int) : Int × Int :=
  if (U1 + odd + 3) / 4 ≤ (U2 + -odd) / 4 / 10 * 10 then ((U2 + -odd) / 4 / 10, q + 1)
  else (if (U1 + odd + 3) / 4 < (U2 + -odd) / 4 then (U3 + 1 + U3 / 4 % 2) / 4 else (U1 + odd + 3) / 4, q)
theorem ret2 {k1 k2 : IntKind} {a b : Int} {r : Int × Int} (h : r = (a, b)) : Ending.returned (.tuple #[.int k1 a, .int k2 b]) = .returned (.tuple #[.int k1 r.1, .int k2 r.2]) := by rw [h]

set_option maxHeartbeats 800000 in
theorem short64_A {B : Nat} (e : Int) (q l s : Int) (w : World) (hG : Good B w) (hB : B ≤ w.heap.size) (he0 : -1085 < e) (he1 : e ≤ 960) 
   (hq0 : -340 ≤ q) (hq1 : q ≤ 340) (hl0 : -2000 ≤ l) (hl1 : l ≤ 2000) (hq : Hid (((e + 11) * 631305 - 261663) / 2097152 = q)) (hl : Hid ((-q) * 108853 / 32768 = l)) (hs : Hid (-(e + l + 3) = s)) (hs0 : 1 ≤ s) (hs1 : s ≤ 60)
   (odd U1 U2 U3 : Int) (hodd : bits .and .i64 4503599627370496 1 = odd) (ho0 : 0 ≤ odd) (ho1 : odd ≤ 1) (h1 : Hid ((usc 9223372036854775296 q s : Int) = U1)) (h2 : Hid ((usc 9223372036854776832 q s : Int) = U2)) (h3 : Hid ((usc 9223372036854775808 q s : Int) = U3)) :
    Calls Tryz.prog 179 #[.int .u64 9223372036854775808, .int .i64 e] w fun e' w' => e' = .returned (.tuple #[.int .u64 (shortU U1 U2 U3 odd q).1, .int .i64 (shortU U1 U2 U3 odd q).2]) ∧ Below w.heap.size w w' := by
  have hb1 := usc_bd (x := 9223372036854775296) (q := q) (s := s) (by omega) (by omega) hq0 hq1 hs0 hs1
  rw [h1.out] at hb1
  have hb2 := usc_bd (x := 9223372036854776832) (q := q) (s := s) (by omega) (by omega) hq0 hq1 hs0 hs1
  rw [h2.out] at hb2
  have hb3 := usc_bd (x := 9223372036854775808) (q := q) (s := s) (by omega) (by omega) hq0 hq1 hs0 hs1
  rw [h3.out] at hb3
  go_enter Tryz.func179, Tryz.ntmps179
  go_wp2_with fail
  refine (skewed_to _ q _ (by omega) (by omega) hq.out).mono ?_
  rintro e' w' ⟨rfl, hw'⟩; rw [hw']; clear hw' w'
  go_wp2_with fail
  refine (log2Pow10_to _ l _ (by omega) (by omega) hl.out).mono ?_
  rintro e' w' ⟨rfl, hw'⟩; rw [hw']; clear hw' w'
  go_wp2_with fail
  refine (prescale_fresh _ _ _ s _ _ _ _ hG hB (by omega) (by omega) (by omega) (by omega) (by omega) (by omega) hs.out).mono ?_
  rintro e' w' ⟨rfl, hw'⟩; rw [hw']; clear hw' w'
  go_wp2_with fail
  refine (usc_calls _ q s U1 _ _ (by omega) (by omega) (by omega) (by omega) (by omega) (by omega) h1.out (by simp) (by simp) (by simp)).mono ?_
  rintro e' w' ⟨rfl, n, hw'⟩; rw [hw']; clear hw' w'
  go_wp2_with fail
  refine (nudge_any _ _ _ (by omega) (by omega) (by omega) (by omega)).mono ?_
  rintro e' w' ⟨rfl, hw'⟩; rw [hw']; clear hw' w'
  go_wp2_with fail
  refine (ceil_any _ _ (by omega) (by omega)).mono ?_
  rintro e' w' ⟨rfl, hw'⟩; rw [hw']; clear hw' w'
  go_wp2_with fail
  refine (usc_calls _ q s U2 _ _ (by omega) (by omega) (by omega) (by omega) (by omega) (by omega) h2.out (by simp) (by simp) (by simp)).mono ?_
  rintro e' w' ⟨rfl, n2, hw'⟩; rw [hw']; clear hw' w'
  go_wp2_with fail
  refine (nudge_any _ _ _ (by omega) (by omega) (by omega) (by omega)).mono ?_
  rintro e' w' ⟨rfl, hw'⟩; rw [hw']; clear hw' w'
  go_wp2_with fail
  refine (floor_any _ _ (by omega) (by omega)).mono ?_
  rintro e' w' ⟨rfl, hw'⟩; rw [hw']; clear hw' w'
  go_wp2_with fail
  · have ht : (U1 + odd + 3) / 4 ≤ (U2 + -odd) / 4 / 10 * 10 := by assumption
    go_ret2
    exact ⟨ret2 (by unfold shortU; rw [if_pos ht]; congr 1; omega), below_drewN ((Below.refl _ _).alloc (Nat.le_refl _) _) _⟩
  · have ht : (U2 + -odd) / 4 / 10 * 10 < (U1 + odd + 3) / 4 := by assumption
    have ht2 : (U1 + odd + 3) / 4 < (U2 + -odd) / 4 := by assumption
    refine (usc_calls _ q s U3 _ _ (by omega) (by omega) (by omega) (by omega) (by omega) (by omega) h3.out (by simp) (by simp) (by simp)).mono ?_
    rintro e' w' ⟨rfl, n3, hw'⟩; rw [hw']; clear hw' w'
    go_wp2_with fail
    refine (round_any _ _ (by omega) (by omega)).mono ?_
    rintro e' w' ⟨rfl, hw'⟩; rw [hw']; clear hw' w'
    go_wp2_with fail
    go_ret2
    exact ⟨ret2 (by unfold shortU; rw [if_neg (by omega), if_pos ht2]), below_drewN ((Below.refl _ _).alloc (Nat.le_refl _) _) _⟩
  · have ht : (U2 + -odd) / 4 / 10 * 10 < (U1 + odd + 3) / 4 := by assumption
    have ht2 : (U2 + -odd) / 4 ≤ (U1 + odd + 3) / 4 := by assumption
    go_ret2
    exact ⟨ret2 (by unfold shortU; rw [if_neg (by omega), if_neg (by omega)]), below_drewN ((Below.refl _ _).alloc (Nat.le_refl _) _) _⟩

set_option maxHeartbeats 800000 in
theorem short64_B {B : Nat} (m : Int) (e : Int) (q l s : Int) (w : World) (hG : Good B w) (hB : B ≤ w.heap.size) (hm0 : 9223372036854775808 < m) (hm1 : m ≤ 18446744073709549568) (he0 : -1085 ≤ e) (he1 : e ≤ 960) 
   (hq0 : -340 ≤ q) (hq1 : q ≤ 340) (hl0 : -2000 ≤ l) (hl1 : l ≤ 2000) (hq : Hid ((e + 11) * 78913 / 262144 = q)) (hl : Hid ((-q) * 108853 / 32768 = l)) (hs : Hid (-(e + l + 3) = s)) (hs0 : 1 ≤ s) (hs1 : s ≤ 60)
   (odd U1 U2 U3 : Int) (hodd : bits .and .i64 (m / 2048) 1 = odd) (ho0 : 0 ≤ odd) (ho1 : odd ≤ 1) (h1 : Hid ((usc (m - 1024) q s : Int) = U1)) (h2 : Hid ((usc (m + 1024) q s : Int) = U2)) (h3 : Hid ((usc m q s : Int) = U3)) :
    Calls Tryz.prog 179 #[.int .u64 m, .int .i64 e] w fun e' w' => e' = .returned (.tuple #[.int .u64 (shortU U1 U2 U3 odd q).1, .int .i64 (shortU U1 U2 U3 odd q).2]) ∧ Below w.heap.size w w' := by
  have hb1 := usc_bd (x := (m - 1024)) (q := q) (s := s) (by omega) (by omega) hq0 hq1 hs0 hs1
  rw [h1.out] at hb1
  have hb2 := usc_bd (x := (m + 1024)) (q := q) (s := s) (by omega) (by omega) hq0 hq1 hs0 hs1
  rw [h2.out] at hb2
  have hb3 := usc_bd (x := m) (q := q) (s := s) (by omega) (by omega) hq0 hq1 hs0 hs1
  rw [h3.out] at hb3
  have b2 : (m == 9223372036854775808) = false := by rw [beq_eq_false_iff_ne]; omega
  go_enter Tryz.func179, Tryz.ntmps179
  go_wp2_with fail
  refine (log10Pow2_to _ q _ (by omega) (by omega) hq.out).mono ?_
  rintro e' w' ⟨rfl, hw'⟩; rw [hw']; clear hw' w'
  go_wp2_with fail
  refine (log2Pow10_to _ l _ (by omega) (by omega) hl.out).mono ?_
  rintro e' w' ⟨rfl, hw'⟩; rw [hw']; clear hw' w'
  go_wp2_with fail
  refine (prescale_fresh _ _ _ s _ _ _ _ hG hB (by omega) (by omega) (by omega) (by omega) (by omega) (by omega) hs.out).mono ?_
  rintro e' w' ⟨rfl, hw'⟩; rw [hw']; clear hw' w'
  go_wp2_with fail
  refine (usc_calls _ q s U1 _ _ (by omega) (by omega) (by omega) (by omega) (by omega) (by omega) h1.out (by simp) (by simp) (by simp)).mono ?_
  rintro e' w' ⟨rfl, n, hw'⟩; rw [hw']; clear hw' w'
  go_wp2_with fail
  refine (nudge_any _ _ _ (by omega) (by omega) (by omega) (by omega)).mono ?_
  rintro e' w' ⟨rfl, hw'⟩; rw [hw']; clear hw' w'
  go_wp2_with fail
  refine (ceil_any _ _ (by omega) (by omega)).mono ?_
  rintro e' w' ⟨rfl, hw'⟩; rw [hw']; clear hw' w'
  go_wp2_with fail
  refine (usc_calls _ q s U2 _ _ (by omega) (by omega) (by omega) (by omega) (by omega) (by omega) h2.out (by simp) (by simp) (by simp)).mono ?_
  rintro e' w' ⟨rfl, n2, hw'⟩; rw [hw']; clear hw' w'
  go_wp2_with fail
  refine (nudge_any _ _ _ (by omega) (by omega) (by omega) (by omega)).mono ?_
  rintro e' w' ⟨rfl, hw'⟩; rw [hw']; clear hw' w'
  go_wp2_with fail
  refine (floor_any _ _ (by omega) (by omega)).mono ?_
  rintro e' w' ⟨rfl, hw'⟩; rw [hw']; clear hw' w'
  go_wp2_with fail
  · have ht : (U1 + odd + 3) / 4 ≤ (U2 + -odd) / 4 / 10 * 10 := by assumption
    go_ret2
    exact ⟨ret2 (by unfold shortU; rw [if_pos ht]; congr 1; omega), below_drewN ((Below.refl _ _).alloc (Nat.le_refl _) _) _⟩
  · have ht : (U2 + -odd) / 4 / 10 * 10 < (U1 + odd + 3) / 4 := by assumption
    have ht2 : (U1 + odd + 3) / 4 < (U2 + -odd) / 4 := by assumption
    refine (usc_calls _ q s U3 _ _ (by omega) (by omega) (by omega) (by omega) (by omega) (by omega) h3.out (by simp) (by simp) (by simp)).mono ?_
    rintro e' w' ⟨rfl, n3, hw'⟩; rw [hw']; clear hw' w'
    go_wp2_with fail
    refine (round_any _ _ (by omega) (by omega)).mono ?_
    rintro e' w' ⟨rfl, hw'⟩; rw [hw']; clear hw' w'
    go_wp2_with fail
    go_ret2
    exact ⟨ret2 (by unfold shortU; rw [if_neg (by omega), if_pos ht2]), below_drewN ((Below.refl _ _).alloc (Nat.le_refl _) _) _⟩
  · have ht : (U2 + -odd) / 4 / 10 * 10 < (U1 + odd + 3) / 4 := by assumption
    have ht2 : (U2 + -odd) / 4 ≤ (U1 + odd + 3) / 4 := by assumption
    go_ret2
    exact ⟨ret2 (by unfold shortU; rw [if_neg (by omega), if_neg (by omega)]), below_drewN ((Below.refl _ _).alloc (Nat.le_refl _) _) _⟩

set_option maxHeartbeats 800000 in
theorem short64_D {B : Nat} (q l s : Int) (w : World) (hG : Good B w) (hB : B ≤ w.heap.size) 
   (hq0 : -340 ≤ q) (hq1 : q ≤ 340) (hl0 : -2000 ≤ l) (hl1 : l ≤ 2000) (hq : Hid ((-1074) * 78913 / 262144 = q)) (hl : Hid ((-q) * 108853 / 32768 = l)) (hs : Hid (-((-1085) + l + 3) = s)) (hs0 : 1 ≤ s) (hs1 : s ≤ 60)
   (odd U1 U2 U3 : Int) (hodd : bits .and .i64 4503599627370496 1 = odd) (ho0 : 0 ≤ odd) (ho1 : odd ≤ 1) (h1 : Hid ((usc 9223372036854774784 q s : Int) = U1)) (h2 : Hid ((usc 9223372036854776832 q s : Int) = U2)) (h3 : Hid ((usc 9223372036854775808 q s : Int) = U3)) :
    Calls Tryz.prog 179 #[.int .u64 9223372036854775808, .int .i64 (-1085)] w fun e' w' => e' = .returned (.tuple #[.int .u64 (shortU U1 U2 U3 odd q).1, .int .i64 (shortU U1 U2 U3 odd q).2]) ∧ Below w.heap.size w w' := by
  have hb1 := usc_bd (x := 9223372036854774784) (q := q) (s := s) (by omega) (by omega) hq0 hq1 hs0 hs1
  rw [h1.out] at hb1
  have hb2 := usc_bd (x := 9223372036854776832) (q := q) (s := s) (by omega) (by omega) hq0 hq1 hs0 hs1
  rw [h2.out] at hb2
  have hb3 := usc_bd (x := 9223372036854775808) (q := q) (s := s) (by omega) (by omega) hq0 hq1 hs0 hs1
  rw [h3.out] at hb3
  go_enter Tryz.func179, Tryz.ntmps179
  go_wp2_with fail
  refine (log10Pow2_to _ q _ (by omega) (by omega) hq.out).mono ?_
  rintro e' w' ⟨rfl, hw'⟩; rw [hw']; clear hw' w'
  go_wp2_with fail
  refine (log2Pow10_to _ l _ (by omega) (by omega) hl.out).mono ?_
  rintro e' w' ⟨rfl, hw'⟩; rw [hw']; clear hw' w'
  go_wp2_with fail
  refine (prescale_fresh _ _ _ s _ _ _ _ hG hB (by omega) (by omega) (by omega) (by omega) (by omega) (by omega) hs.out).mono ?_
  rintro e' w' ⟨rfl, hw'⟩; rw [hw']; clear hw' w'
  go_wp2_with fail
  refine (usc_calls _ q s U1 _ _ (by omega) (by omega) (by omega) (by omega) (by omega) (by omega) h1.out (by simp) (by simp) (by simp)).mono ?_
  rintro e' w' ⟨rfl, n, hw'⟩; rw [hw']; clear hw' w'
  go_wp2_with fail
  refine (nudge_any _ _ _ (by omega) (by omega) (by omega) (by omega)).mono ?_
  rintro e' w' ⟨rfl, hw'⟩; rw [hw']; clear hw' w'
  go_wp2_with fail
  refine (ceil_any _ _ (by omega) (by omega)).mono ?_
  rintro e' w' ⟨rfl, hw'⟩; rw [hw']; clear hw' w'
  go_wp2_with fail
  refine (usc_calls _ q s U2 _ _ (by omega) (by omega) (by omega) (by omega) (by omega) (by omega) h2.out (by simp) (by simp) (by simp)).mono ?_
  rintro e' w' ⟨rfl, n2, hw'⟩; rw [hw']; clear hw' w'
  go_wp2_with fail
  refine (nudge_any _ _ _ (by omega) (by omega) (by omega) (by omega)).mono ?_
  rintro e' w' ⟨rfl, hw'⟩; rw [hw']; clear hw' w'
  go_wp2_with fail
  refine (floor_any _ _ (by omega) (by omega)).mono ?_
  rintro e' w' ⟨rfl, hw'⟩; rw [hw']; clear hw' w'
  go_wp2_with fail
  · have ht : (U1 + odd + 3) / 4 ≤ (U2 + -odd) / 4 / 10 * 10 := by assumption
    go_ret2
    exact ⟨ret2 (by unfold shortU; rw [if_pos ht]; congr 1; omega), below_drewN ((Below.refl _ _).alloc (Nat.le_refl _) _) _⟩
  · have ht : (U2 + -odd) / 4 / 10 * 10 < (U1 + odd + 3) / 4 := by assumption
    have ht2 : (U1 + odd + 3) / 4 < (U2 + -odd) / 4 := by assumption
    refine (usc_calls _ q s U3 _ _ (by omega) (by omega) (by omega) (by omega) (by omega) (by omega) h3.out (by simp) (by simp) (by simp)).mono ?_
    rintro e' w' ⟨rfl, n3, hw'⟩; rw [hw']; clear hw' w'
    go_wp2_with fail
    refine (round_any _ _ (by omega) (by omega)).mono ?_
    rintro e' w' ⟨rfl, hw'⟩; rw [hw']; clear hw' w'
    go_wp2_with fail
    go_ret2
    exact ⟨ret2 (by unfold shortU; rw [if_neg (by omega), if_pos ht2]), below_drewN ((Below.refl _ _).alloc (Nat.le_refl _) _) _⟩
  · have ht : (U2 + -odd) / 4 / 10 * 10 < (U1 + odd + 3) / 4 := by assumption
    have ht2 : (U2 + -odd) / 4 ≤ (U1 + odd + 3) / 4 := by assumption
    go_ret2
    exact ⟨ret2 (by unfold shortU; rw [if_neg (by omega), if_neg (by omega)]), below_drewN ((Below.refl _ _).alloc (Nat.le_refl _) _) _⟩

set_option maxHeartbeats 800000 in
theorem short64_C {B : Nat} (m : Int) (e : Int) (q l s : Int) (w : World) (hG : Good B w) (hB : B ≤ w.heap.size) (z : Nat) (hz0 : 12 ≤ z) (hz1 : z ≤ 63) (hz : (11 : Int) + (-1085 - e) = z) (hm0 : 9223372036854775808 < m) (hm1 : m + 2 ^ (z - 1) < 18446744073709551616) (hm2 : (2 : Int) ^ (z - 1) ≤ 4611686018427387904) (hm3 : (1 : Int) ≤ 2 ^ (z - 1)) (he0 : -1200 ≤ e) (he1 : e < -1085) 
   (hq0 : -340 ≤ q) (hq1 : q ≤ 340) (hl0 : -2000 ≤ l) (hl1 : l ≤ 2000) (hq : Hid ((e + z) * 78913 / 262144 = q)) (hl : Hid ((-q) * 108853 / 32768 = l)) (hs : Hid (-(e + l + 3) = s)) (hs0 : 1 ≤ s) (hs1 : s ≤ 60)
   (odd U1 U2 U3 : Int) (hodd : bits .and .i64 (wrap64 (m / 2 ^ z)) 1 = odd) (ho0 : 0 ≤ odd) (ho1 : odd ≤ 1) (h1 : Hid ((usc (m - 2 ^ (z - 1)) q s : Int) = U1)) (h2 : Hid ((usc (m + 2 ^ (z - 1)) q s : Int) = U2)) (h3 : Hid ((usc m q s : Int) = U3)) :
    Calls Tryz.prog 179 #[.int .u64 m, .int .i64 e] w fun e' w' => e' = .returned (.tuple #[.int .u64 (shortU U1 U2 U3 odd q).1, .int .i64 (shortU U1 U2 U3 odd q).2]) ∧ Below w.heap.size w w' := by
  have hb1 := usc_bd (x := (m - 2 ^ (z - 1))) (q := q) (s := s) (by omega) (by omega) hq0 hq1 hs0 hs1
  rw [h1.out] at hb1
  have hb2 := usc_bd (x := (m + 2 ^ (z - 1))) (q := q) (s := s) (by omega) (by omega) hq0 hq1 hs0 hs1
  rw [h2.out] at hb2
  have hb3 := usc_bd (x := m) (q := q) (s := s) (by omega) (by omega) hq0 hq1 hs0 hs1
  rw [h3.out] at hb3
  have b1 : (m == 9223372036854775808) = false := by rw [beq_eq_false_iff_ne]; omega
  have b2 : decide (-1085 < e) = false := by simp; omega
  go_enter Tryz.func179, Tryz.ntmps179
  go_wp2_with fail
  refine (log10Pow2_to _ q _ (by omega) (by omega) hq.out).mono ?_
  rintro e' w' ⟨rfl, hw'⟩; rw [hw']; clear hw' w'
  go_wp2_with fail
  refine (log2Pow10_to _ l _ (by omega) (by omega) hl.out).mono ?_
  rintro e' w' ⟨rfl, hw'⟩; rw [hw']; clear hw' w'
  go_wp2_with fail
  refine (prescale_fresh _ _ _ s _ _ _ _ hG hB (by omega) (by omega) (by omega) (by omega) (by omega) (by omega) hs.out).mono ?_
  rintro e' w' ⟨rfl, hw'⟩; rw [hw']; clear hw' w'
  go_wp2_with fail
  refine (usc_calls _ q s U1 _ _ (by omega) (by omega) (by omega) (by omega) (by omega) (by omega) h1.out (by simp) (by simp) (by simp)).mono ?_
  rintro e' w' ⟨rfl, n, hw'⟩; rw [hw']; clear hw' w'
  go_wp2_with fail
  refine (nudge_any _ _ _ (by omega) (by omega) (by omega) (by omega)).mono ?_
  rintro e' w' ⟨rfl, hw'⟩; rw [hw']; clear hw' w'
  go_wp2_with fail
  refine (ceil_any _ _ (by omega) (by omega)).mono ?_
  rintro e' w' ⟨rfl, hw'⟩; rw [hw']; clear hw' w'
  go_wp2_with fail
  refine (usc_calls _ q s U2 _ _ (by omega) (by omega) (by omega) (by omega) (by omega) (by omega) h2.out (by simp) (by simp) (by simp)).mono ?_
  rintro e' w' ⟨rfl, n2, hw'⟩; rw [hw']; clear hw' w'
  go_wp2_with fail
  refine (nudge_any _ _ _ (by omega) (by omega) (by omega) (by omega)).mono ?_
  rintro e' w' ⟨rfl, hw'⟩; rw [hw']; clear hw' w'
  go_wp2_with fail
  refine (floor_any _ _ (by omega) (by omega)).mono ?_
  rintro e' w' ⟨rfl, hw'⟩; rw [hw']; clear hw' w'
  go_wp2_with fail
  · have ht : (U1 + odd + 3) / 4 ≤ (U2 + -odd) / 4 / 10 * 10 := by assumption
    go_ret2
    exact ⟨ret2 (by unfold shortU; rw [if_pos ht]; congr 1; omega), below_drewN ((Below.refl _ _).alloc (Nat.le_refl _) _) _⟩
  · have ht : (U2 + -odd) / 4 / 10 * 10 < (U1 + odd + 3) / 4 := by assumption
    have ht2 : (U1 + odd + 3) / 4 < (U2 + -odd) / 4 := by assumption
    refine (usc_calls _ q s U3 _ _ (by omega) (by omega) (by omega) (by omega) (by omega) (by omega) h3.out (by simp) (by simp) (by simp)).mono ?_
    rintro e' w' ⟨rfl, n3, hw'⟩; rw [hw']; clear hw' w'
    go_wp2_with fail
    refine (round_any _ _ (by omega) (by omega)).mono ?_
    rintro e' w' ⟨rfl, hw'⟩; rw [hw']; clear hw' w'
    go_wp2_with fail
    go_ret2
    exact ⟨ret2 (by unfold shortU; rw [if_neg (by omega), if_pos ht2]), below_drewN ((Below.refl _ _).alloc (Nat.le_refl _) _) _⟩
  · have ht : (U2 + -odd) / 4 / 10 * 10 < (U1 + odd + 3) / 4 := by assumption
    have ht2 : (U2 + -odd) / 4 ≤ (U1 + odd + 3) / 4 := by assumption
    go_ret2
    exact ⟨ret2 (by unfold shortU; rw [if_neg (by omega), if_neg (by omega)]), below_drewN ((Below.refl _ _).alloc (Nat.le_refl _) _) _⟩

set_option maxHeartbeats 800000 in
theorem short64_E {B : Nat} (e : Int) (q l s : Int) (w : World) (hG : Good B w) (hB : B ≤ w.heap.size) (z : Nat) (hz0 : 12 ≤ z) (hz1 : z ≤ 63) (hz : (11 : Int) + (-1085 - e) = z) (hm2 : (2 : Int) ^ (z - 1) ≤ 4611686018427387904) (hm3 : (1 : Int) ≤ 2 ^ (z - 1)) (he0 : -1200 ≤ e) (he1 : e < -1085) 
   (hq0 : -340 ≤ q) (hq1 : q ≤ 340) (hl0 : -2000 ≤ l) (hl1 : l ≤ 2000) (hq : Hid ((e + z) * 78913 / 262144 = q)) (hl : Hid ((-q) * 108853 / 32768 = l)) (hs : Hid (-(e + l + 3) = s)) (hs0 : 1 ≤ s) (hs1 : s ≤ 60)
   (odd U1 U2 U3 : Int) (hodd : bits .and .i64 (wrap64 (9223372036854775808 / 2 ^ z)) 1 = odd) (ho0 : 0 ≤ odd) (ho1 : odd ≤ 1) (h1 : Hid ((usc (9223372036854775808 - 2 ^ (z - 1)) q s : Int) = U1)) (h2 : Hid ((usc (9223372036854775808 + 2 ^ (z - 1)) q s : Int) = U2)) (h3 : Hid ((usc 9223372036854775808 q s : Int) = U3)) :
    Calls Tryz.prog 179 #[.int .u64 9223372036854775808, .int .i64 e] w fun e' w' => e' = .returned (.tuple #[.int .u64 (shortU U1 U2 U3 odd q).1, .int .i64 (shortU U1 U2 U3 odd q).2]) ∧ Below w.heap.size w w' := by
  have hb1 := usc_bd (x := (9223372036854775808 - 2 ^ (z - 1))) (q := q) (s := s) (by omega) (by omega) hq0 hq1 hs0 hs1
  rw [h1.out] at hb1
  have hb2 := usc_bd (x := (9223372036854775808 + 2 ^ (z - 1))) (q := q) (s := s) (by omega) (by omega) hq0 hq1 hs0 hs1
  rw [h2.out] at hb2
  have hb3 := usc_bd (x := 9223372036854775808) (q := q) (s := s) (by omega) (by omega) hq0 hq1 hs0 hs1
  rw [h3.out] at hb3
  have b2 : decide (-1085 < e) = false := by simp; omega
  go_enter Tryz.func179, Tryz.ntmps179
  go_wp2_with fail
  refine (log10Pow2_to _ q _ (by omega) (by omega) hq.out).mono ?_
  rintro e' w' ⟨rfl, hw'⟩; rw [hw']; clear hw' w'
  go_wp2_with fail
  refine (log2Pow10_to _ l _ (by omega) (by omega) hl.out).mono ?_
  rintro e' w' ⟨rfl, hw'⟩; rw [hw']; clear hw' w'
  go_wp2_with fail
  refine (prescale_fresh _ _ _ s _ _ _ _ hG hB (by omega) (by omega) (by omega) (by omega) (by omega) (by omega) hs.out).mono ?_
  rintro e' w' ⟨rfl, hw'⟩; rw [hw']; clear hw' w'
  go_wp2_with fail
  refine (usc_calls _ q s U1 _ _ (by omega) (by omega) (by omega) (by omega) (by omega) (by omega) h1.out (by simp) (by simp) (by simp)).mono ?_
  rintro e' w' ⟨rfl, n, hw'⟩; rw [hw']; clear hw' w'
  go_wp2_with fail
  refine (nudge_any _ _ _ (by omega) (by omega) (by omega) (by omega)).mono ?_
  rintro e' w' ⟨rfl, hw'⟩; rw [hw']; clear hw' w'
  go_wp2_with fail
  refine (ceil_any _ _ (by omega) (by omega)).mono ?_
  rintro e' w' ⟨rfl, hw'⟩; rw [hw']; clear hw' w'
  go_wp2_with fail
  refine (usc_calls _ q s U2 _ _ (by omega) (by omega) (by omega) (by omega) (by omega) (by omega) h2.out (by simp) (by simp) (by simp)).mono ?_
  rintro e' w' ⟨rfl, n2, hw'⟩; rw [hw']; clear hw' w'
  go_wp2_with fail
  refine (nudge_any _ _ _ (by omega) (by omega) (by omega) (by omega)).mono ?_
  rintro e' w' ⟨rfl, hw'⟩; rw [hw']; clear hw' w'
  go_wp2_with fail
  refine (floor_any _ _ (by omega) (by omega)).mono ?_
  rintro e' w' ⟨rfl, hw'⟩; rw [hw']; clear hw' w'
  go_wp2_with fail
  · have ht : (U1 + odd + 3) / 4 ≤ (U2 + -odd) / 4 / 10 * 10 := by assumption
    go_ret2
    exact ⟨ret2 (by unfold shortU; rw [if_pos ht]; congr 1; omega), below_drewN ((Below.refl _ _).alloc (Nat.le_refl _) _) _⟩
  · have ht : (U2 + -odd) / 4 / 10 * 10 < (U1 + odd + 3) / 4 := by assumption
    have ht2 : (U1 + odd + 3) / 4 < (U2 + -odd) / 4 := by assumption
    refine (usc_calls _ q s U3 _ _ (by omega) (by omega) (by omega) (by omega) (by omega) (by omega) h3.out (by simp) (by simp) (by simp)).mono ?_
    rintro e' w' ⟨rfl, n3, hw'⟩; rw [hw']; clear hw' w'
    go_wp2_with fail
    refine (round_any _ _ (by omega) (by omega)).mono ?_
    rintro e' w' ⟨rfl, hw'⟩; rw [hw']; clear hw' w'
    go_wp2_with fail
    go_ret2
    exact ⟨ret2 (by unfold shortU; rw [if_neg (by omega), if_pos ht2]), below_drewN ((Below.refl _ _).alloc (Nat.le_refl _) _) _⟩
  · have ht : (U2 + -odd) / 4 / 10 * 10 < (U1 + odd + 3) / 4 := by assumption
    have ht2 : (U2 + -odd) / 4 ≤ (U1 + odd + 3) / 4 := by assumption
    go_ret2
    exact ⟨ret2 (by unfold shortU; rw [if_neg (by omega), if_neg (by omega)]), below_drewN ((Below.refl _ _).alloc (Nat.le_refl _) _) _⟩

set_option maxHeartbeats 800000 in
theorem short32_A {B : Nat} (e : Int) (q l s : Int) (w : World) (hG : Good B w) (hB : B ≤ w.heap.size) (he0 : -189 < e) (he1 : e ≤ 960) 
   (hq0 : -340 ≤ q) (hq1 : q ≤ 340) (hl0 : -2000 ≤ l) (hl1 : l ≤ 2000) (hq : Hid (((e + 40) * 631305 - 261663) / 2097152 = q)) (hl : Hid ((-q) * 108853 / 32768 = l)) (hs : Hid (-(e + l + 3) = s)) (hs0 : 1 ≤ s) (hs1 : s ≤ 60)
   (odd U1 U2 U3 : Int) (hodd : bits .and .i64 8388608 1 = odd) (ho0 : 0 ≤ odd) (ho1 : odd ≤ 1) (h1 : Hid ((usc 9223371761976868864 q s : Int) = U1)) (h2 : Hid ((usc 9223372586610589696 q s : Int) = U2)) (h3 : Hid ((usc 9223372036854775808 q s : Int) = U3)) :
    Calls Tryz.prog 173 #[.int .u64 9223372036854775808, .int .i64 e] w fun e' w' => e' = .returned (.tuple #[.int .u64 (shortU U1 U2 U3 odd q).1, .int .i64 (shortU U1 U2 U3 odd q).2]) ∧ Below w.heap.size w w' := by
  have hb1 := usc_bd (x := 9223371761976868864) (q := q) (s := s) (by omega) (by omega) hq0 hq1 hs0 hs1
  rw [h1.out] at hb1
  have hb2 := usc_bd (x := 9223372586610589696) (q := q) (s := s) (by omega) (by omega) hq0 hq1 hs0 hs1
  rw [h2.out] at hb2
  have hb3 := usc_bd (x := 9223372036854775808) (q := q) (s := s) (by omega) (by omega) hq0 hq1 hs0 hs1
  rw [h3.out] at hb3
  go_enter Tryz.func173, Tryz.ntmps173
  go_wp2_with fail
  refine (skewed_to _ q _ (by omega) (by omega) hq.out).mono ?_
  rintro e' w' ⟨rfl, hw'⟩; rw [hw']; clear hw' w'
  go_wp2_with fail
  refine (log2Pow10_to _ l _ (by omega) (by omega) hl.out).mono ?_
  rintro e' w' ⟨rfl, hw'⟩; rw [hw']; clear hw' w'
  go_wp2_with fail
  refine (prescale_fresh _ _ _ s _ _ _ _ hG hB (by omega) (by omega) (by omega) (by omega) (by omega) (by omega) hs.out).mono ?_
  rintro e' w' ⟨rfl, hw'⟩; rw [hw']; clear hw' w'
  go_wp2_with fail
  refine (usc_calls _ q s U1 _ _ (by omega) (by omega) (by omega) (by omega) (by omega) (by omega) h1.out (by simp) (by simp) (by simp)).mono ?_
  rintro e' w' ⟨rfl, n, hw'⟩; rw [hw']; clear hw' w'
  go_wp2_with fail
  refine (nudge_any _ _ _ (by omega) (by omega) (by omega) (by omega)).mono ?_
  rintro e' w' ⟨rfl, hw'⟩; rw [hw']; clear hw' w'
  go_wp2_with fail
  refine (ceil_any _ _ (by omega) (by omega)).mono ?_
  rintro e' w' ⟨rfl, hw'⟩; rw [hw']; clear hw' w'
  go_wp2_with fail
  refine (usc_calls _ q s U2 _ _ (by omega) (by omega) (by omega) (by omega) (by omega) (by omega) h2.out (by simp) (by simp) (by simp)).mono ?_
  rintro e' w' ⟨rfl, n2, hw'⟩; rw [hw']; clear hw' w'
  go_wp2_with fail
  refine (nudge_any _ _ _ (by omega) (by omega) (by omega) (by omega)).mono ?_
  rintro e' w' ⟨rfl, hw'⟩; rw [hw']; clear hw' w'
  go_wp2_with fail
  refine (floor_any _ _ (by omega) (by omega)).mono ?_
  rintro e' w' ⟨rfl, hw'⟩; rw [hw']; clear hw' w'
  go_wp2_with fail
  · have ht : (U1 + odd + 3) / 4 ≤ (U2 + -odd) / 4 / 10 * 10 := by assumption
    go_ret2
    exact ⟨ret2 (by unfold shortU; rw [if_pos ht]; congr 1; omega), below_drewN ((Below.refl _ _).alloc (Nat.le_refl _) _) _⟩
  · have ht : (U2 + -odd) / 4 / 10 * 10 < (U1 + odd + 3) / 4 := by assumption
    have ht2 : (U1 + odd + 3) / 4 < (U2 + -odd) / 4 := by assumption
    refine (usc_calls _ q s U3 _ _ (by omega) (by omega) (by omega) (by omega) (by omega) (by omega) h3.out (by simp) (by simp) (by simp)).mono ?_
    rintro e' w' ⟨rfl, n3, hw'⟩; rw [hw']; clear hw' w'
    go_wp2_with fail
    refine (round_any _ _ (by omega) (by omega)).mono ?_
    rintro e' w' ⟨rfl, hw'⟩; rw [hw']; clear hw' w'
    go_wp2_with fail
    go_ret2
    exact ⟨ret2 (by unfold shortU; rw [if_neg (by omega), if_pos ht2]), below_drewN ((Below.refl _ _).alloc (Nat.le_refl _) _) _⟩
  · have ht : (U2 + -odd) / 4 / 10 * 10 < (U1 + odd + 3) / 4 := by assumption
    have ht2 : (U2 + -odd) / 4 ≤ (U1 + odd + 3) / 4 := by assumption
    go_ret2
    exact ⟨ret2 (by unfold shortU; rw [if_neg (by omega), if_neg (by omega)]), below_drewN ((Below.refl _ _).alloc (Nat.le_refl _) _) _⟩

set_option maxHeartbeats 800000 in
theorem short32_B {B : Nat} (m : Int) (e : Int) (q l s : Int) (w : World) (hG : Good B w) (hB : B ≤ w.heap.size) (hm0 : 9223372036854775808 < m) (hm1 : m ≤ 18446742974197923840) (he0 : -189 ≤ e) (he1 : e ≤ 960) 
   (hq0 : -340 ≤ q) (hq1 : q ≤ 340) (hl0 : -2000 ≤ l) (hl1 : l ≤ 2000) (hq : Hid ((e + 40) * 78913 / 262144 = q)) (hl : Hid ((-q) * 108853 / 32768 = l)) (hs : Hid (-(e + l + 3) = s)) (hs0 : 1 ≤ s) (hs1 : s ≤ 60)
   (odd U1 U2 U3 : Int) (hodd : bits .and .i64 (m / 1099511627776) 1 = odd) (ho0 : 0 ≤ odd) (ho1 : odd ≤ 1) (h1 : Hid ((usc (m - 549755813888) q s : Int) = U1)) (h2 : Hid ((usc (m + 549755813888) q s : Int) = U2)) (h3 : Hid ((usc m q s : Int) = U3)) :
    Calls Tryz.prog 173 #[.int .u64 m, .int .i64 e] w fun e' w' => e' = .returned (.tuple #[.int .u64 (shortU U1 U2 U3 odd q).1, .int .i64 (shortU U1 U2 U3 odd q).2]) ∧ Below w.heap.size w w' := by
  have hb1 := usc_bd (x := (m - 549755813888)) (q := q) (s := s) (by omega) (by omega) hq0 hq1 hs0 hs1
  rw [h1.out] at hb1
  have hb2 := usc_bd (x := (m + 549755813888)) (q := q) (s := s) (by omega) (by omega) hq0 hq1 hs0 hs1
  rw [h2.out] at hb2
  have hb3 := usc_bd (x := m) (q := q) (s := s) (by omega) (by omega) hq0 hq1 hs0 hs1
  rw [h3.out] at hb3
  have b2 : (m == 9223372036854775808) = false := by rw [beq_eq_false_iff_ne]; omega
  go_enter Tryz.func173, Tryz.ntmps173
  go_wp2_with fail
  refine (log10Pow2_to _ q _ (by omega) (by omega) hq.out).mono ?_
  rintro e' w' ⟨rfl, hw'⟩; rw [hw']; clear hw' w'
  go_wp2_with fail
  refine (log2Pow10_to _ l _ (by omega) (by omega) hl.out).mono ?_
  rintro e' w' ⟨rfl, hw'⟩; rw [hw']; clear hw' w'
  go_wp2_with fail
  refine (prescale_fresh _ _ _ s _ _ _ _ hG hB (by omega) (by omega) (by omega) (by omega) (by omega) (by omega) hs.out).mono ?_
  rintro e' w' ⟨rfl, hw'⟩; rw [hw']; clear hw' w'
  go_wp2_with fail
  refine (usc_calls _ q s U1 _ _ (by omega) (by omega) (by omega) (by omega) (by omega) (by omega) h1.out (by simp) (by simp) (by simp)).mono ?_
  rintro e' w' ⟨rfl, n, hw'⟩; rw [hw']; clear hw' w'
  go_wp2_with fail
  refine (nudge_any _ _ _ (by omega) (by omega) (by omega) (by omega)).mono ?_
  rintro e' w' ⟨rfl, hw'⟩; rw [hw']; clear hw' w'
  go_wp2_with fail
  refine (ceil_any _ _ (by omega) (by omega)).mono ?_
  rintro e' w' ⟨rfl, hw'⟩; rw [hw']; clear hw' w'
  go_wp2_with fail
  refine (usc_calls _ q s U2 _ _ (by omega) (by omega) (by omega) (by omega) (by omega) (by omega) h2.out (by simp) (by simp) (by simp)).mono ?_
  rintro e' w' ⟨rfl, n2, hw'⟩; rw [hw']; clear hw' w'
  go_wp2_with fail
  refine (nudge_any _ _ _ (by omega) (by omega) (by omega) (by omega)).mono ?_
  rintro e' w' ⟨rfl, hw'⟩; rw [hw']; clear hw' w'
  go_wp2_with fail
  refine (floor_any _ _ (by omega) (by omega)).mono ?_
  rintro e' w' ⟨rfl, hw'⟩; rw [hw']; clear hw' w'
  go_wp2_with fail
  · have ht : (U1 + odd + 3) / 4 ≤ (U2 + -odd) / 4 / 10 * 10 := by assumption
    go_ret2
    exact ⟨ret2 (by unfold shortU; rw [if_pos ht]; congr 1; omega), below_drewN ((Below.refl _ _).alloc (Nat.le_refl _) _) _⟩
  · have ht : (U2 + -odd) / 4 / 10 * 10 < (U1 + odd + 3) / 4 := by assumption
    have ht2 : (U1 + odd + 3) / 4 < (U2 + -odd) / 4 := by assumption
    refine (usc_calls _ q s U3 _ _ (by omega) (by omega) (by omega) (by omega) (by omega) (by omega) h3.out (by simp) (by simp) (by simp)).mono ?_
    rintro e' w' ⟨rfl, n3, hw'⟩; rw [hw']; clear hw' w'
    go_wp2_with fail
    refine (round_any _ _ (by omega) (by omega)).mono ?_
    rintro e' w' ⟨rfl, hw'⟩; rw [hw']; clear hw' w'
    go_wp2_with fail
    go_ret2
    exact ⟨ret2 (by unfold shortU; rw [if_neg (by omega), if_pos ht2]), below_drewN ((Below.refl _ _).alloc (Nat.le_refl _) _) _⟩
  · have ht : (U2 + -odd) / 4 / 10 * 10 < (U1 + odd + 3) / 4 := by assumption
    have ht2 : (U2 + -odd) / 4 ≤ (U1 + odd + 3) / 4 := by assumption
    go_ret2
    exact ⟨ret2 (by unfold shortU; rw [if_neg (by omega), if_neg (by omega)]), below_drewN ((Below.refl _ _).alloc (Nat.le_refl _) _) _⟩

set_option maxHeartbeats 800000 in
theorem short32_D {B : Nat} (q l s : Int) (w : World) (hG : Good B w) (hB : B ≤ w.heap.size) 
   (hq0 : -340 ≤ q) (hq1 : q ≤ 340) (hl0 : -2000 ≤ l) (hl1 : l ≤ 2000) (hq : Hid ((-149) * 78913 / 262144 = q)) (hl : Hid ((-q) * 108853 / 32768 = l)) (hs : Hid (-((-189) + l + 3) = s)) (hs0 : 1 ≤ s) (hs1 : s ≤ 60)
   (odd U1 U2 U3 : Int) (hodd : bits .and .i64 8388608 1 = odd) (ho0 : 0 ≤ odd) (ho1 : odd ≤ 1) (h1 : Hid ((usc 9223371487098961920 q s : Int) = U1)) (h2 : Hid ((usc 9223372586610589696 q s : Int) = U2)) (h3 : Hid ((usc 9223372036854775808 q s : Int) = U3)) :
    Calls Tryz.prog 173 #[.int .u64 9223372036854775808, .int .i64 (-189)] w fun e' w' => e' = .returned (.tuple #[.int .u64 (shortU U1 U2 U3 odd q).1, .int .i64 (shortU U1 U2 U3 odd q).2]) ∧ Below w.heap.size w w' := by
  have hb1 := usc_bd (x := 9223371487098961920) (q := q) (s := s) (by omega) (by omega) hq0 hq1 hs0 hs1
  rw [h1.out] at hb1
  have hb2 := usc_bd (x := 9223372586610589696) (q := q) (s := s) (by omega) (by omega) hq0 hq1 hs0 hs1
  rw [h2.out] at hb2
  have hb3 := usc_bd (x := 9223372036854775808) (q := q) (s := s) (by omega) (by omega) hq0 hq1 hs0 hs1
  rw [h3.out] at hb3
  go_enter Tryz.func173, Tryz.ntmps173
  go_wp2_with fail
  refine (log10Pow2_to _ q _ (by omega) (by omega) hq.out).mono ?_
  rintro e' w' ⟨rfl, hw'⟩; rw [hw']; clear hw' w'
  go_wp2_with fail
  refine (log2Pow10_to _ l _ (by omega) (by omega) hl.out).mono ?_
  rintro e' w' ⟨rfl, hw'⟩; rw [hw']; clear hw' w'
  go_wp2_with fail
  refine (prescale_fresh _ _ _ s _ _ _ _ hG hB (by omega) (by omega) (by omega) (by omega) (by omega) (by omega) hs.out).mono ?_
  rintro e' w' ⟨rfl, hw'⟩; rw [hw']; clear hw' w'
  go_wp2_with fail
  refine (usc_calls _ q s U1 _ _ (by omega) (by omega) (by omega) (by omega) (by omega) (by omega) h1.out (by simp) (by simp) (by simp)).mono ?_
  rintro e' w' ⟨rfl, n, hw'⟩; rw [hw']; clear hw' w'
  go_wp2_with fail
  refine (nudge_any _ _ _ (by omega) (by omega) (by omega) (by omega)).mono ?_
  rintro e' w' ⟨rfl, hw'⟩; rw [hw']; clear hw' w'
  go_wp2_with fail
  refine (ceil_any _ _ (by omega) (by omega)).mono ?_
  rintro e' w' ⟨rfl, hw'⟩; rw [hw']; clear hw' w'
  go_wp2_with fail
  refine (usc_calls _ q s U2 _ _ (by omega) (by omega) (by omega) (by omega) (by omega) (by omega) h2.out (by simp) (by simp) (by simp)).mono ?_
  rintro e' w' ⟨rfl, n2, hw'⟩; rw [hw']; clear hw' w'
  go_wp2_with fail
  refine (nudge_any _ _ _ (by omega) (by omega) (by omega) (by omega)).mono ?_
  rintro e' w' ⟨rfl, hw'⟩; rw [hw']; clear hw' w'
  go_wp2_with fail
  refine (floor_any _ _ (by omega) (by omega)).mono ?_
  rintro e' w' ⟨rfl, hw'⟩; rw [hw']; clear hw' w'
  go_wp2_with fail
  · have ht : (U1 + odd + 3) / 4 ≤ (U2 + -odd) / 4 / 10 * 10 := by assumption
    go_ret2
    exact ⟨ret2 (by unfold shortU; rw [if_pos ht]; congr 1; omega), below_drewN ((Below.refl _ _).alloc (Nat.le_refl _) _) _⟩
  · have ht : (U2 + -odd) / 4 / 10 * 10 < (U1 + odd + 3) / 4 := by assumption
    have ht2 : (U1 + odd + 3) / 4 < (U2 + -odd) / 4 := by assumption
    refine (usc_calls _ q s U3 _ _ (by omega) (by omega) (by omega) (by omega) (by omega) (by omega) h3.out (by simp) (by simp) (by simp)).mono ?_
    rintro e' w' ⟨rfl, n3, hw'⟩; rw [hw']; clear hw' w'
    go_wp2_with fail
    refine (round_any _ _ (by omega) (by omega)).mono ?_
    rintro e' w' ⟨rfl, hw'⟩; rw [hw']; clear hw' w'
    go_wp2_with fail
    go_ret2
    exact ⟨ret2 (by unfold shortU; rw [if_neg (by omega), if_pos ht2]), below_drewN ((Below.refl _ _).alloc (Nat.le_refl _) _) _⟩
  · have ht : (U2 + -odd) / 4 / 10 * 10 < (U1 + odd + 3) / 4 := by assumption
    have ht2 : (U2 + -odd) / 4 ≤ (U1 + odd + 3) / 4 := by assumption
    go_ret2
    exact ⟨ret2 (by unfold shortU; rw [if_neg (by omega), if_neg (by omega)]), below_drewN ((Below.refl _ _).alloc (Nat.le_refl _) _) _⟩

set_option maxHeartbeats 800000 in
theorem short32_C {B : Nat} (m : Int) (e : Int) (q l s : Int) (w : World) (hG : Good B w) (hB : B ≤ w.heap.size) (z : Nat) (hz0 : 41 ≤ z) (hz1 : z ≤ 63) (hz : (40 : Int) + (-189 - e) = z) (hm0 : 9223372036854775808 < m) (hm1 : m + 2 ^ (z - 1) < 18446744073709551616) (hm2 : (2 : Int) ^ (z - 1) ≤ 4611686018427387904) (hm3 : (1 : Int) ≤ 2 ^ (z - 1)) (he0 : -1200 ≤ e) (he1 : e < -189) 
   (hq0 : -340 ≤ q) (hq1 : q ≤ 340) (hl0 : -2000 ≤ l) (hl1 : l ≤ 2000) (hq : Hid ((e + z) * 78913 / 262144 = q)) (hl : Hid ((-q) * 108853 / 32768 = l)) (hs : Hid (-(e + l + 3) = s)) (hs0 : 1 ≤ s) (hs1 : s ≤ 60)
   (odd U1 U2 U3 : Int) (hodd : bits .and .i64 (wrap64 (m / 2 ^ z)) 1 = odd) (ho0 : 0 ≤ odd) (ho1 : odd ≤ 1) (h1 : Hid ((usc (m - 2 ^ (z - 1)) q s : Int) = U1)) (h2 : Hid ((usc (m + 2 ^ (z - 1)) q s : Int) = U2)) (h3 : Hid ((usc m q s : Int) = U3)) :
    Calls Tryz.prog 173 #[.int .u64 m, .int .i64 e] w fun e' w' => e' = .returned (.tuple #[.int .u64 (shortU U1 U2 U3 odd q).1, .int .i64 (shortU U1 U2 U3 odd q).2]) ∧ Below w.heap.size w w' := by
  have hb1 := usc_bd (x := (m - 2 ^ (z - 1))) (q := q) (s := s) (by omega) (by omega) hq0 hq1 hs0 hs1
  rw [h1.out] at hb1
  have hb2 := usc_bd (x := (m + 2 ^ (z - 1))) (q := q) (s := s) (by omega) (by omega) hq0 hq1 hs0 hs1
  rw [h2.out] at hb2
  have hb3 := usc_bd (x := m) (q := q) (s := s) (by omega) (by omega) hq0 hq1 hs0 hs1
  rw [h3.out] at hb3
  have b1 : (m == 9223372036854775808) = false := by rw [beq_eq_false_iff_ne]; omega
  have b2 : decide (-189 < e) = false := by simp; omega
  go_enter Tryz.func173, Tryz.ntmps173
  go_wp2_with fail
  refine (log10Pow2_to _ q _ (by omega) (by omega) hq.out).mono ?_
  rintro e' w' ⟨rfl, hw'⟩; rw [hw']; clear hw' w'
  go_wp2_with fail
  refine (log2Pow10_to _ l _ (by omega) (by omega) hl.out).mono ?_
  rintro e' w' ⟨rfl, hw'⟩; rw [hw']; clear hw' w'
  go_wp2_with fail
  refine (prescale_fresh _ _ _ s _ _ _ _ hG hB (by omega) (by omega) (by omega) (by omega) (by omega) (by omega) hs.out).mono ?_
  rintro e' w' ⟨rfl, hw'⟩; rw [hw']; clear hw' w'
  go_wp2_with fail
  refine (usc_calls _ q s U1 _ _ (by omega) (by omega) (by omega) (by omega) (by omega) (by omega) h1.out (by simp) (by simp) (by simp)).mono ?_
  rintro e' w' ⟨rfl, n, hw'⟩; rw [hw']; clear hw' w'
  go_wp2_with fail
  refine (nudge_any _ _ _ (by omega) (by omega) (by omega) (by omega)).mono ?_
  rintro e' w' ⟨rfl, hw'⟩; rw [hw']; clear hw' w'
  go_wp2_with fail
  refine (ceil_any _ _ (by omega) (by omega)).mono ?_
  rintro e' w' ⟨rfl, hw'⟩; rw [hw']; clear hw' w'
  go_wp2_with fail
  refine (usc_calls _ q s U2 _ _ (by omega) (by omega) (by omega) (by omega) (by omega) (by omega) h2.out (by simp) (by simp) (by simp)).mono ?_
  rintro e' w' ⟨rfl, n2, hw'⟩; rw [hw']; clear hw' w'
  go_wp2_with fail
  refine (nudge_any _ _ _ (by omega) (by omega) (by omega) (by omega)).mono ?_
  rintro e' w' ⟨rfl, hw'⟩; rw [hw']; clear hw' w'
  go_wp2_with fail
  refine (floor_any _ _ (by omega) (by omega)).mono ?_
  rintro e' w' ⟨rfl, hw'⟩; rw [hw']; clear hw' w'
  go_wp2_with fail
  · have ht : (U1 + odd + 3) / 4 ≤ (U2 + -odd) / 4 / 10 * 10 := by assumption
    go_ret2
    exact ⟨ret2 (by unfold shortU; rw [if_pos ht]; congr 1; omega), below_drewN ((Below.refl _ _).alloc (Nat.le_refl _) _) _⟩
  · have ht : (U2 + -odd) / 4 / 10 * 10 < (U1 + odd + 3) / 4 := by assumption
    have ht2 : (U1 + odd + 3) / 4 < (U2 + -odd) / 4 := by assumption
    refine (usc_calls _ q s U3 _ _ (by omega) (by omega) (by omega) (by omega) (by omega) (by omega) h3.out (by simp) (by simp) (by simp)).mono ?_
    rintro e' w' ⟨rfl, n3, hw'⟩; rw [hw']; clear hw' w'
    go_wp2_with fail
    refine (round_any _ _ (by omega) (by omega)).mono ?_
    rintro e' w' ⟨rfl, hw'⟩; rw [hw']; clear hw' w'
    go_wp2_with fail
    go_ret2
    exact ⟨ret2 (by unfold shortU; rw [if_neg (by omega), if_pos ht2]), below_drewN ((Below.refl _ _).alloc (Nat.le_refl _) _) _⟩
  · have ht : (U2 + -odd) / 4 / 10 * 10 < (U1 + odd + 3) / 4 := by assumption
    have ht2 : (U2 + -odd) / 4 ≤ (U1 + odd + 3) / 4 := by assumption
    go_ret2
    exact ⟨ret2 (by unfold shortU; rw [if_neg (by omega), if_neg (by omega)]), below_drewN ((Below.refl _ _).alloc (Nat.le_refl _) _) _⟩

set_option maxHeartbeats 800000 in
theorem short32_E {B : Nat} (e : Int) (q l s : Int) (w : World) (hG : Good B w) (hB : B ≤ w.heap.size) (z : Nat) (hz0 : 41 ≤ z) (hz1 : z ≤ 63) (hz : (40 : Int) + (-189 - e) = z) (hm2 : (2 : Int) ^ (z - 1) ≤ 4611686018427387904) (hm3 : (1 : Int) ≤ 2 ^ (z - 1)) (he0 : -1200 ≤ e) (he1 : e < -189) 
   (hq0 : -340 ≤ q) (hq1 : q ≤ 340) (hl0 : -2000 ≤ l) (hl1 : l ≤ 2000) (hq : Hid ((e + z) * 78913 / 262144 = q)) (hl : Hid ((-q) * 108853 / 32768 = l)) (hs : Hid (-(e + l + 3) = s)) (hs0 : 1 ≤ s) (hs1 : s ≤ 60)
   (odd U1 U2 U3 : Int) (hodd : bits .and .i64 (wrap64 (9223372036854775808 / 2 ^ z)) 1 = odd) (ho0 : 0 ≤ odd) (ho1 : odd ≤ 1) (h1 : Hid ((usc (9223372036854775808 - 2 ^ (z - 1)) q s : Int) = U1)) (h2 : Hid ((usc (9223372036854775808 + 2 ^ (z - 1)) q s : Int) = U2)) (h3 : Hid ((usc 9223372036854775808 q s : Int) = U3)) :
    Calls Tryz.prog 173 #[.int .u64 9223372036854775808, .int .i64 e] w fun e' w' => e' = .returned (.tuple #[.int .u64 (shortU U1 U2 U3 odd q).1, .int .i64 (shortU U1 U2 U3 odd q).2]) ∧ Below w.heap.size w w' := by
  have hb1 := usc_bd (x := (9223372036854775808 - 2 ^ (z - 1))) (q := q) (s := s) (by omega) (by omega) hq0 hq1 hs0 hs1
  rw [h1.out] at hb1
  have hb2 := usc_bd (x := (9223372036854775808 + 2 ^ (z - 1))) (q := q) (s := s) (by omega) (by omega) hq0 hq1 hs0 hs1
  rw [h2.out] at hb2
  have hb3 := usc_bd (x := 9223372036854775808) (q := q) (s := s) (by omega) (by omega) hq0 hq1 hs0 hs1
  rw [h3.out] at hb3
  have b2 : decide (-189 < e) = false := by simp; omega
  go_enter Tryz.func173, Tryz.ntmps173
  go_wp2_with fail
  refine (log10Pow2_to _ q _ (by omega) (by omega) hq.out).mono ?_
  rintro e' w' ⟨rfl, hw'⟩; rw [hw']; clear hw' w'
  go_wp2_with fail
  refine (log2Pow10_to _ l _ (by omega) (by omega) hl.out).mono ?_
  rintro e' w' ⟨rfl, hw'⟩; rw [hw']; clear hw' w'
  go_wp2_with fail
  refine (prescale_fresh _ _ _ s _ _ _ _ hG hB (by omega) (by omega) (by omega) (by omega) (by omega) (by omega) hs.out).mono ?_
  rintro e' w' ⟨rfl, hw'⟩; rw [hw']; clear hw' w'
  go_wp2_with fail
  refine (usc_calls _ q s U1 _ _ (by omega) (by omega) (by omega) (by omega) (by omega) (by omega) h1.out (by simp) (by simp) (by simp)).mono ?_
  rintro e' w' ⟨rfl, n, hw'⟩; rw [hw']; clear hw' w'
  go_wp2_with fail
  refine (nudge_any _ _ _ (by omega) (by omega) (by omega) (by omega)).mono ?_
  rintro e' w' ⟨rfl, hw'⟩; rw [hw']; clear hw' w'
  go_wp2_with fail
  refine (ceil_any _ _ (by omega) (by omega)).mono ?_
  rintro e' w' ⟨rfl, hw'⟩; rw [hw']; clear hw' w'
  go_wp2_with fail
  refine (usc_calls _ q s U2 _ _ (by omega) (by omega) (by omega) (by omega) (by omega) (by omega) h2.out (by simp) (by simp) (by simp)).mono ?_
  rintro e' w' ⟨rfl, n2, hw'⟩; rw [hw']; clear hw' w'
  go_wp2_with fail
  refine (nudge_any _ _ _ (by omega) (by omega) (by omega) (by omega)).mono ?_
  rintro e' w' ⟨rfl, hw'⟩; rw [hw']; clear hw' w'
  go_wp2_with fail
  refine (floor_any _ _ (by omega) (by omega)).mono ?_
  rintro e' w' ⟨rfl, hw'⟩; rw [hw']; clear hw' w'
  go_wp2_with fail
  · have ht : (U1 + odd + 3) / 4 ≤ (U2 + -odd) / 4 / 10 * 10 := by assumption
    go_ret2
    exact ⟨ret2 (by unfold shortU; rw [if_pos ht]; congr 1; omega), below_drewN ((Below.refl _ _).alloc (Nat.le_refl _) _) _⟩
  · have ht : (U2 + -odd) / 4 / 10 * 10 < (U1 + odd + 3) / 4 := by assumption
    have ht2 : (U1 + odd + 3) / 4 < (U2 + -odd) / 4 := by assumption
    refine (usc_calls _ q s U3 _ _ (by omega) (by omega) (by omega) (by omega) (by omega) (by omega) h3.out (by simp) (by simp) (by simp)).mono ?_
    rintro e' w' ⟨rfl, n3, hw'⟩; rw [hw']; clear hw' w'
    go_wp2_with fail
    refine (round_any _ _ (by omega) (by omega)).mono ?_
    rintro e' w' ⟨rfl, hw'⟩; rw [hw']; clear hw' w'
    go_wp2_with fail
    go_ret2
    exact ⟨ret2 (by unfold shortU; rw [if_neg (by omega), if_pos ht2]), below_drewN ((Below.refl _ _).alloc (Nat.le_refl _) _) _⟩
  · have ht : (U2 + -odd) / 4 / 10 * 10 < (U1 + odd + 3) / 4 := by assumption
    have ht2 : (U2 + -odd) / 4 ≤ (U1 + odd + 3) / 4 := by assumption
    go_ret2
    exact ⟨ret2 (by unfold shortU; rw [if_neg (by omega), if_neg (by omega)]), below_drewN ((Below.refl _ _).alloc (Nat.le_refl _) _) _⟩
end Go.Proofs.YtdfodfflkmcgpaaGreatDoor
