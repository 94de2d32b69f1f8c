/- The digits that shortFloat reckons: they are read as the number, and of digits one shorter there is one at most. -/
import Derived.Test.YtdfodfflkmcgpaaGreatDoorZA4
import Derived.Test.YtdfodfflkmcgpaaGreatDoorZR
import Derived.Test.YtdfodfflkmcgpaaGreatDoorZQe
import Derived.Test.YtdfodfflkmcgpaaGreatDoorZB
namespace Go.Proofs.YtdfodfflkmcgpaaGreatDoor
open Go.RowKit Near Parse Farey Short
set_option linter.unusedVariables false
set_option maxRecDepth 100000
theorem quart_pos {A D : Nat} (hD : 0 < D) (hA : 0 < A) : 1 ≤ quart A D := by
  have := (quart_le (A := A) hD 0).2.2.2
  rw [Nat.zero_mul] at this
  have := this.2 hA
  omega
theorem shortU_pick {A1 A2 A3 D o : Nat} (q : Int) (hD : 0 < D) (hA : 0 < A2) (ho : o ≤ 1) :
    shortU (quart A1 D : Nat) (quart A2 D : Nat) (quart A3 D : Nat) (o : Nat) q = ((((pick A1 A2 A3 D o).1 : Nat) : Int), q + ((pick A1 A2 A3 D o).2 : Nat)) := by
  have h2 := quart_pos hD hA
  have e1 : ((quart A1 D : Nat) + (o : Int) + 3) / 4 = ((dmin A1 D o : Nat) : Int) := by unfold dmin; omega
  have e2 : ((quart A2 D : Nat) + -(o : Int)) / 4 = ((dmax A2 D o : Nat) : Int) := by unfold dmax; omega
  have e3 : (((quart A3 D : Nat) : Int) + 1 + (quart A3 D : Nat) / 4 % 2) / 4 = ((roundU (quart A3 D) : Nat) : Int) := by unfold roundU; omega
  unfold shortU pick
  rw [e1, e2, e3]
  by_cases h : dmin A1 D o ≤ dmax A2 D o / 10 * 10
  · rw [if_pos h, if_pos (by omega)]
    refine Prod.ext ?_ ?_
    · show ((dmax A2 D o : Nat) : Int) / 10 = ((dmax A2 D o / 10 : Nat) : Int); omega
    · rfl
  · rw [if_neg h, if_neg (by omega)]
    by_cases h3 : dmin A1 D o < dmax A2 D o
    · rw [if_pos h3, if_pos (by omega)]
      refine Prod.ext rfl ?_
      show q = q + ((0 : Nat) : Int); omega
    · rw [if_neg h3, if_neg (by omega)]
      refine Prod.ext rfl ?_
      show q = q + ((0 : Nat) : Int); omega
theorem exactU_quart (x : Nat) (p : Int) (s : Nat) : Scaled.exactU x p s = quart (x * num p) (den p * (2 ^ s * 2 ^ 129)) := by
  unfold Scaled.exactU quart
  rw [big129]
  congr 1
  by_cases h : x * num p % (den p * (2 ^ s * 2 ^ 129)) = 0
  · rw [h]; rfl
  · rw [if_neg h, show (x * num p % (den p * (2 ^ s * 2 ^ 129)) != 0) = true from bne_iff_ne.2 h]; rfl
theorem usc_quart {x : Nat} {q S : Int} {s : Nat} (hs : S = (s : Int)) (h0 : -345 ≤ -q) (h1 : -q ≤ 325) (hs5 : 5 ≤ s) (h512 : x % 512 = 0) (hx0 : 4611686018427387904 ≤ x) (hx1 : x < 18446744073709551616) (X : Int) (hX : X = (x : Nat)) :
    usc X q S = quart (x * num (-q)) (den (-q) * (2 ^ s * 2 ^ 129)) := by
  subst hX; subst hs
  unfold usc
  rw [Int.toNat_natCast, Int.toNat_natCast, Scaled.print h0 h1 hs5 h512 hx0 hx1, exactU_quart]
theorem pow_dvd {a b : Nat} (h : a ≤ b) : 2 ^ b % 2 ^ a = 0 := by
  obtain ⟨c, rfl⟩ : ∃ c, b = a + c := ⟨b - a, by omega⟩
  rw [Nat.pow_add]; exact Nat.mul_mod_right _ _
theorem mod512 {x j : Nat} (hj : 9 ≤ j) : x * 2 ^ j % 512 = 0 := by
  obtain ⟨c, rfl⟩ : ∃ c, j = 9 + c := ⟨j - 9, by omega⟩
  rw [Nat.pow_add, ← Nat.mul_assoc, Nat.mul_right_comm, show (2:Nat) ^ 9 = 512 from rfl]
  exact Nat.mul_mod_left _ _
theorem reads_iff {t L d R : Nat} {q : Int} : ReadsAs t L d q R ↔ RN (2 ^ t) (d * (10 ^ q.toNat * 2 ^ L)) (10 ^ (-q).toNat) R := by
  unfold ReadsAs; rw [Nat.mul_assoc]
theorem pick_small {A1 A2 A3 D o m : Nat} (E : Short.Ends A1 A2 A3 D o) (hA : A2 < (4 * m + 2) * (7 * D)) (hm : m < 9007199254740992) : (pick A1 A2 A3 D o).2 ≤ 1 ∧ (pick A1 A2 A3 D o).1 < 1152921504606846976 := by
  have hj : (pick A1 A2 A3 D o).2 ≤ 1 := by
    unfold pick
    split
    · exact Nat.le_refl 1
    · exact Nat.zero_le 1
  refine ⟨hj, ?_⟩
  have h2 := E.pick_in.2
  have hD := E.hD
  have h3 : (pick A1 A2 A3 D o).1 ≤ dmax A2 D o := Nat.le_trans (Nat.le_mul_of_pos_right _ (Nat.pow_pos (by omega))) h2
  rw [le_dmax hD E.ho (by have := E.up; omega)] at h3
  have h4 : 2 * (pick A1 A2 A3 D o).1 * D ≤ A2 := by omega
  have h5 : 2 * (pick A1 A2 A3 D o).1 * D < (4 * m + 2) * 7 * D := by rw [Nat.mul_assoc (4 * m + 2)]; omega
  have := Nat.lt_of_mul_lt_mul_right h5
  omega
theorem short_fin {t L R A1 A2 A3 D : Nat} {q : Int} (hR0 : R ≠ 0) (E : Short.Ends A1 A2 A3 D (R % 2)) (h1 : A1 * (10 ^ q.toNat * 2 ^ L) = D * (mid (2 ^ t) (R - 1) * 10 ^ (-q).toNat)) (h2 : A2 * (10 ^ q.toNat * 2 ^ L) = D * (mid (2 ^ t) R * 10 ^ (-q).toNat)) :
    ReadsAs t L (pick A1 A2 A3 D (R % 2)).1 (q + ((pick A1 A2 A3 D (R % 2)).2 : Nat)) R ∧ ∀ x, ReadsAs t L x (q + 1) R → pick A1 A2 A3 D (R % 2) = (x, 1) := by
  have hc : 0 < 10 ^ q.toNat * 2 ^ L := Nat.mul_pos (Nat.pow_pos (by omega)) (Nat.two_pow_pos _)
  have he : 0 < 10 ^ (-q).toNat := Nat.pow_pos (by omega)
  have hA : 0 < A2 := by have := E.up; omega
  refine ⟨?_, fun x hx => ?_⟩
  · rw [reads_shift (q := q) (k := (pick A1 A2 A3 D (R % 2)).2) rfl, reads_iff, Short.iff E.hD hc he hR0 h1 h2 hA]
    exact E.pick_in
  · have h3 := (reads_shift (q := q) (k := 1) (by omega)).1 hx
    rw [reads_iff, Short.iff E.hD hc he hR0 h1 h2 hA, Nat.pow_one, Nat.mul_comm] at h3
    exact E.tens h3.1 h3.2
theorem short_spec {t L mant k R : Nat} {u : Int} {A : Bool} (ht : 1 ≤ t) (ht2 : t ≤ 52) (hm0 : 0 < mant) (hm : mant < 2 ^ (t + 1)) (hk : (k : Int) = u + L) (hk2 : k = 0 ∨ 2 ^ t ≤ mant) (hR : R = k * 2 ^ t + mant)
   (hu0 : -1074 ≤ u) (hu1 : u ≤ 971) (hA : A = decide (mant = 2 ^ t ∧ 0 < k)) :
    ∃ d j : Nat, shortR mant u A = ((d : Int), shortQ A u + (j : Nat)) ∧ ReadsAs t L d (shortQ A u + (j : Nat)) R ∧ (∀ x, ReadsAs t L x (shortQ A u + 1) R → d = x ∧ j = 1) ∧ j ≤ 1 ∧ d < 1152921504606846976 := by
  have hh := Nat.two_pow_pos t
  have hh2 : 2 ^ (t + 1) = 2 * 2 ^ t := by rw [Nat.pow_succ]; omega
  have hev : 2 ^ t % 2 = 0 := by
    obtain ⟨y, rfl⟩ : ∃ y, t = y + 1 := ⟨t - 1, by omega⟩
    rw [Nat.pow_succ]; omega
  have hodd : R % 2 = mant % 2 := by
    rw [hR, Nat.add_mod, Nat.mul_mod, hev, Nat.mul_zero, Nat.zero_mod, Nat.zero_add, Nat.mod_mod]
  have hm53 : mant < 9007199254740992 := Nat.lt_of_lt_of_le hm (Nat.le_trans (pow_le (b := 53) (by omega)) (by decide))
  obtain ⟨s1, s2, s3⟩ := sh_bounds (x := mant) (by omega) (by omega)
  obtain ⟨s0, hs0⟩ : ∃ s, s = sh mant := ⟨_, rfl⟩
  rw [← hs0] at s1 s2 s3
  have hs11 : 11 ≤ s0 := by
    rcases Nat.lt_or_ge s0 11 with h | h
    · exfalso
      have h2 : 2 ^ s0 ≤ 2 ^ 10 := pow_le (by omega)
      have h3 : mant * 2 ^ s0 ≤ mant * 2 ^ 10 := Nat.mul_le_mul_left _ h2
      rw [show (2 : Nat) ^ 10 = 1024 from rfl] at h3
      omega
    · exact h
  have p1 := two_pred (s0 := s0) (by omega)
  have p2 := two_pred (s0 := s0 - 1) (by omega)
  rw [show s0 - 1 - 1 = s0 - 2 by omega] at p2
  have q0 := Nat.two_pow_pos (s0 - 2)
  have hMge : 2 ^ s0 ≤ mant * 2 ^ s0 := Nat.le_mul_of_pos_left _ hm0
  -- the room above
  have hup : mant * 2 ^ s0 + 2 ^ s0 ≤ 18446744073709551616 := by
    have e : 18446744073709551616 = 2 ^ (64 - s0) * 2 ^ s0 := by rw [← Nat.pow_add, show 64 - s0 + s0 = 64 by omega]
    rw [e] at s3
    have := Nat.lt_of_mul_lt_mul_right s3
    have h3 : (mant + 1) * 2 ^ s0 ≤ 2 ^ (64 - s0) * 2 ^ s0 := Nat.mul_le_mul_right _ this
    rw [← e, Nat.succ_mul] at h3
    exact h3
  have c0 : ((2 : Int) ^ s0) = ((2 ^ s0 : Nat) : Int) := by simp
  have c1 : ((2 : Int) ^ (s0 - 1)) = ((2 ^ (s0 - 1) : Nat) : Int) := by simp
  have c2 : ((2 : Int) ^ (s0 - 2)) = ((2 ^ (s0 - 2) : Nat) : Int) := by simp
  have hR0 : R ≠ 0 := by omega
  cases A
  · have hsk : ¬ (mant = 2 ^ t ∧ 0 < k) := of_decide_eq_false hA.symm
    obtain ⟨hok, -⟩ := ok_at hu0 hu1
    unfold okU at hok
    simp only [Bool.and_eq_true, Bool.or_eq_true, decide_eq_true_eq] at hok
    obtain ⟨⟨⟨⟨⟨⟨-, -⟩, k3⟩, k4⟩, k5⟩, k6⟩, -⟩ := hok
    have hq : shortQ false u = qU u := rfl
    obtain ⟨S, hS⟩ : ∃ S : Nat, (S : Int) = s0 - u - lp (-(qU u)) - 3 := ⟨(s0 - u - lp (-(qU u)) - 3).toNat, by omega⟩
    have hSs : shortS (qU u) u s0 = (S : Int) := by rw [hS]; rfl
    have E := ends_even (m := mant) (o := R % 2) (s0 := s0) (S := S) (u := u) hm0 (by omega) (by omega) hS hu0 hu1
    have g1 : (2 * mant - 1) * 2 ^ (s0 - 1) = mant * 2 ^ s0 - 2 ^ (s0 - 1) := by
      rw [Nat.sub_mul, Nat.one_mul, p1]; congr 1; grind
    have g2 : (2 * mant + 1) * 2 ^ (s0 - 1) = mant * 2 ^ s0 + 2 ^ (s0 - 1) := by rw [p1]; grind
    have hpk := short_fin (t := t) (L := L) (q := qU u) hR0 E ?_ ?_
    · refine ⟨_, _, ?_, hpk.1, fun x hx => ?_, pick_small E ?_ hm53⟩
      · unfold shortR
        rw [← hs0, hq, hSs, ← hodd]
        rw [usc_quart (x := (2 * mant - 1) * 2 ^ (s0 - 1)) rfl k5 k6 (by omega) (mod512 (by omega)) (by rw [g1]; omega) (by rw [g1]; omega) _ (by rw [g1]; simp only [Bool.false_eq_true, if_false]; rw [c0, c1]; omega),
          usc_quart (x := (2 * mant + 1) * 2 ^ (s0 - 1)) rfl k5 k6 (by omega) (mod512 (by omega)) (by rw [g2]; omega) (by rw [g2]; omega) _ (by rw [g2, c0, c1]; omega),
          usc_quart (x := mant * 2 ^ s0) rfl k5 k6 (by omega) (mod512 (by omega)) (by omega) (by omega) _ (by rw [c0]; omega)]
        exact shortU_pick _ E.hD (by have := E.up; omega) (by omega)
      · have := hpk.2 x hx
        rw [this]; exact ⟨rfl, rfl⟩
      · have hn := E.near
        rw [Nat.mul_assoc, Nat.mul_assoc] at hn
        rw [Nat.mul_assoc]
        generalize 2 ^ (s0 - 1) * num (-(qU u)) = Y at *
        generalize den (-(qU u)) * (2 ^ S * 2 ^ 129) = D at *
        have b1 : (2 * mant - 1) * Y = 2 * (mant * Y) - Y := by rw [Nat.sub_mul, Nat.one_mul, Nat.mul_assoc]
        have b2 : (2 * mant + 1) * Y = 2 * (mant * Y) + Y := by rw [Nat.add_mul, Nat.one_mul, Nat.mul_assoc]
        have b3 : Y ≤ mant * Y := Nat.le_mul_of_pos_left _ hm0
        have hY : Y < 10 * D := by omega
        have b4 : (2 * mant + 1) * Y < (2 * mant + 1) * (10 * D) := Nat.mul_lt_mul_of_pos_left hY (by omega)
        have b5 : (4 * mant + 2) * (7 * D) = (2 * mant + 1) * (14 * D) := by grind
        have b6 : (2 * mant + 1) * (10 * D) ≤ (2 * mant + 1) * (14 * D) := Nat.mul_le_mul_left _ (by omega)
        omega
    · refine scaled (y := 2 * mant - 1) (j := s0 - 1) (s0 := s0) (k := k) hS hk rfl ?_
      rw [hR, mid_dn hm0 (by omega) hk2 hsk, Nat.mul_assoc, Nat.mul_assoc, ← Nat.pow_add, ← Nat.pow_add]
      congr 2; omega
    · refine scaled (y := 2 * mant + 1) (j := s0 - 1) (s0 := s0) (k := k) hS hk rfl ?_
      rw [hR, mid_up (by omega) hk2, Nat.mul_assoc, Nat.mul_assoc, ← Nat.pow_add, ← Nat.pow_add]
      congr 2; omega
  · obtain ⟨hmh, hkp⟩ : mant = 2 ^ t ∧ 0 < k := of_decide_eq_true hA.symm
    obtain ⟨-, hok⟩ := ok_at hu0 hu1
    unfold okS at hok
    simp only [Bool.and_eq_true, decide_eq_true_eq] at hok
    obtain ⟨⟨⟨⟨⟨-, -⟩, k3⟩, k4⟩, k5⟩, k6⟩ := hok
    have hq : shortQ true u = qS u := rfl
    obtain ⟨S, hS⟩ : ∃ S : Nat, (S : Int) = s0 - u - lp (-(qS u)) - 3 := ⟨(s0 - u - lp (-(qS u)) - 3).toNat, by omega⟩
    have hSs : shortS (qS u) u s0 = (S : Int) := by rw [hS]; rfl
    have ho : R % 2 = 0 := by rw [hodd, hmh]; exact hev
    have E := ends_skew (m := mant) (s0 := s0) (S := S) (u := u) hm0 (by omega) hS hu0 hu1
    rw [← ho] at E
    have g1 : (4 * mant - 1) * 2 ^ (s0 - 2) = mant * 2 ^ s0 - 2 ^ (s0 - 2) := by
      rw [Nat.sub_mul, Nat.one_mul, p1, p2]; congr 1; grind
    have g2 : (2 * mant + 1) * 2 ^ (s0 - 1) = mant * 2 ^ s0 + 2 ^ (s0 - 1) := by rw [p1]; grind
    have hpk := short_fin (t := t) (L := L) (q := qS u) hR0 E ?_ ?_
    · refine ⟨_, _, ?_, hpk.1, fun x hx => ?_, pick_small E ?_ hm53⟩
      · unfold shortR
        rw [← hs0, hq, hSs, ← hodd]
        rw [usc_quart (x := (4 * mant - 1) * 2 ^ (s0 - 2)) rfl k5 k6 (by omega) (mod512 (by omega)) (by rw [g1]; omega) (by rw [g1]; omega) _ (by rw [g1]; simp only [if_true]; rw [c0, c2]; omega),
          usc_quart (x := (2 * mant + 1) * 2 ^ (s0 - 1)) rfl k5 k6 (by omega) (mod512 (by omega)) (by rw [g2]; omega) (by rw [g2]; omega) _ (by rw [g2, c0, c1]; omega),
          usc_quart (x := mant * 2 ^ s0) rfl k5 k6 (by omega) (mod512 (by omega)) (by omega) (by omega) _ (by rw [c0]; omega)]
        exact shortU_pick _ E.hD (by have := E.up; omega) (by omega)
      · have := hpk.2 x hx
        rw [this]; exact ⟨rfl, rfl⟩
      · have hn := E.near
        rw [Nat.mul_assoc (4 * mant - 1), Nat.mul_assoc (2 * mant + 1), p2, Nat.mul_assoc 2] at hn
        rw [Nat.mul_assoc (2 * mant + 1), p2, Nat.mul_assoc 2]
        generalize 2 ^ (s0 - 2) * num (-(qS u)) = Y at *
        generalize den (-(qS u)) * (2 ^ S * 2 ^ 129) = D at *
        have b1 : (4 * mant - 1) * Y = 4 * (mant * Y) - Y := by rw [Nat.sub_mul, Nat.one_mul, Nat.mul_assoc]
        have b2 : (2 * mant + 1) * (2 * Y) = 4 * (mant * Y) + 2 * Y := by grind
        have b3 : Y ≤ mant * Y := Nat.le_mul_of_pos_left _ hm0
        have hY : Y < 7 * D := by omega
        have b4 : (2 * mant + 1) * (2 * Y) < (2 * mant + 1) * (2 * (7 * D)) := Nat.mul_lt_mul_of_pos_left (by omega) (by omega)
        have b5 : (4 * mant + 2) * (7 * D) = (2 * mant + 1) * (2 * (7 * D)) := by grind
        omega
    · refine scaled (y := 4 * mant - 1) (j := s0 - 2) (s0 := s0) (k := k) hS hk rfl ?_
      obtain ⟨k', rfl⟩ : ∃ k', k = k' + 1 := ⟨k - 1, by omega⟩
      rw [hR, hmh, mid_skew hh, Nat.mul_assoc, Nat.mul_assoc, ← Nat.pow_add, ← Nat.pow_add]
      congr 2; omega
    · refine scaled (y := 2 * mant + 1) (j := s0 - 1) (s0 := s0) (k := k) hS hk rfl ?_
      rw [hR, mid_up (by omega) hk2, Nat.mul_assoc, Nat.mul_assoc, ← Nat.pow_add, ← Nat.pow_add]
      congr 2; omega
end Go.Proofs.YtdfodfflkmcgpaaGreatDoor
/- The text in form 'e' as bytes: its digits without noughts behind, its exponent; cut, read and joined again. Of lists alone. -/
namespace Go.Proofs.YtdfodfflkmcgpaaGreatDoor
open Go.RowKit
set_option linter.unusedVariables false
set_option maxRecDepth 100000
/-- numbers as bytes. -/
def bm (l : List Int) : List UInt8 := l.map fun n => UInt8.ofNat n.toNat
theorem strOfNums_bm (l : List Int) : strOfNums l = strL (bm l) := rfl
theorem bm_app (a b : List Int) : bm (a ++ b) = bm a ++ bm b := List.map_append
theorem bm_digs (d : Nat) : bm (digs d) = Lib.decDigits d := by
  unfold bm digs
  rw [List.map_map]
  conv => rhs; rw [← List.map_id (Lib.decDigits d)]
  apply List.map_congr_left
  intro c _
  show UInt8.ofNat ((c.toNat : Int)).toNat = c
  rw [Int.toNat_natCast]
  simp
/-- how many digits stand ahead of the noughts at the end. -/
def nzD (d : Nat) : Nat := nzAt (digs d) (Lib.nDigits d)
/-- the digits without the noughts at the end. -/
def cutD (d : Nat) : List UInt8 := (Lib.decDigits d).take (nzD d)
def mantL (D : List UInt8) : List UInt8 := D.take 1 ++ (if D.length ≤ 1 then [] else 46 :: D.drop 1)
theorem digs_at {d k : Nat} (hk : k < Lib.nDigits d) : (digs d).getD k 0 = (((Lib.decDigits d)[k]'(by rw [Lib.decDigits_length]; exact hk)).toNat : Int) := by
  unfold digs
  rw [List.getD_eq_getElem?_getD, List.getElem?_map, List.getElem?_eq_getElem (by rw [Lib.decDigits_length]; exact hk)]
  rfl
theorem nz_tail (d : Nat) : ∀ k, k ≤ Lib.nDigits d → (∀ i (hi : i < (Lib.decDigits d).length), nzAt (digs d) k ≤ i → i < k → (Lib.decDigits d)[i] = 48) ∧ (∀ i (hi : i < (Lib.decDigits d).length), i + 1 = nzAt (digs d) k → (Lib.decDigits d)[i] ≠ 48) := by
  intro k
  induction k with
  | zero => intro _; exact ⟨fun i _ _ h => absurd h (by omega), fun i _ h => by simp [nzAt] at h⟩
  | succ k ih =>
    intro hk
    obtain ⟨h1, h2⟩ := ih (by omega)
    have hat := digs_at (d := d) (k := k) (by omega)
    by_cases h48 : (digs d).getD k 0 = 48
    · rw [nzAt_same _ _ h48]
      refine ⟨fun i hi h3 h4 => ?_, h2⟩
      rcases Nat.lt_or_ge i k with h5 | h5
      · exact h1 i hi h3 h5
      · have : i = k := by omega
        subst this
        rw [hat] at h48
        exact UInt8.toNat.inj (by show _ = 48; omega)
    · rw [nzAt_end _ _ h48]
      refine ⟨fun i _ h3 h4 => absurd h3 (by omega), fun i hi h3 => ?_⟩
      have : i = k := by omega
      subst this
      intro h
      rw [hat, h] at h48
      exact h48 rfl
theorem dec_first (u : Nat) (hu : 0 < u) : ∀ c, (Lib.decDigits u)[0]? = some c → c ≠ 48 := by
  induction u using Nat.strongRecOn with
  | _ u ih =>
    by_cases h : u < 10
    · have e : Lib.decDigits u = [UInt8.ofNat (48 + u)] := by rw [Lib.decDigits, dif_pos h]
      rw [e]
      intro c hc
      have : UInt8.ofNat (48 + u) = c := by simpa using hc
      rw [← this]
      intro h2
      have h3 := congrArg UInt8.toNat h2
      simp at h3
      omega
    · have e : Lib.decDigits u = Lib.decDigits (u / 10) ++ [UInt8.ofNat (48 + u % 10)] := by rw [Lib.decDigits, dif_neg h]
      rw [e]
      have hl : 0 < (Lib.decDigits (u / 10)).length := List.length_pos_iff.2 (dec_all (u / 10)).2.2
      rw [List.getElem?_append_left hl]
      exact ih (u / 10) (by omega) (by omega)
/-- the digits shown. -/
theorem cutD_spec {d : Nat} (hd : 0 < d) : (∀ c ∈ cutD d, isDig c) ∧ cutD d ≠ [] ∧ (∀ c, (cutD d)[0]? = some c → c ≠ 48) ∧ (cutD d).length = nzD d ∧ nzD d ≤ Lib.nDigits d ∧ d = natOf (cutD d) * 10 ^ (Lib.nDigits d - nzD d) ∧ ∀ c, (cutD d)[(cutD d).length - 1]? = some c → c ≠ 48 := by
  obtain ⟨x1, x2, x3⟩ := dec_all d
  have hlen : (Lib.decDigits d).length = Lib.nDigits d := Lib.decDigits_length d
  have hn1 : 1 ≤ Lib.nDigits d := Lib.nDigits_pos d
  have hle : nzD d ≤ Lib.nDigits d := nzAt_le _ _
  obtain ⟨t1, t2⟩ := nz_tail d (Lib.nDigits d) (Nat.le_refl _)
  have hf := dec_first d hd
  have hpos : 1 ≤ nzD d := by
    refine nzAt_pos _ ?_ _ hn1
    rw [digs_at hn1]
    intro h
    exact hf _ (List.getElem?_eq_getElem (by omega)) (UInt8.toNat.inj (by show _ = 48; omega))
  have hl : (cutD d).length = nzD d := by unfold cutD; rw [List.length_take, hlen]; omega
  refine ⟨fun c hc => x1 c (List.mem_of_mem_take hc), fun h => ?_, fun c hc => ?_, hl, hle, ?_, fun c hc => ?_⟩
  · rw [h] at hl; simp at hl; omega
  · unfold cutD at hc
    rw [List.getElem?_take_of_lt (by omega)] at hc
    exact hf c hc
  · have hz : ∀ c ∈ (Lib.decDigits d).drop (nzD d), c = 48 := by
      intro c hc
      obtain ⟨i, hi, rfl⟩ := List.mem_iff_getElem.1 hc
      rw [List.getElem_drop]
      rw [List.length_drop] at hi
      exact t1 _ (by omega) (by show nzD d ≤ _; omega) (by omega)
    conv => lhs; rw [← x2, ← List.take_append_drop (nzD d) (Lib.decDigits d)]
    rw [natOf_append, natOf_zeros hz, List.length_drop, hlen, Nat.add_zero]
    rfl
  · rw [hl] at hc
    unfold cutD at hc
    rw [List.getElem?_take_of_lt (by omega)] at hc
    obtain ⟨hi, rfl⟩ := List.getElem?_eq_some_iff.1 hc
    exact t2 _ hi (by show nzD d - 1 + 1 = nzD d; omega)
/-- the text as bytes. -/
theorem bm_textE (d : Nat) (p : Int) (hd : 0 < d) : bm (textE d p) = mantL (cutD d) ++ [101] ++ bm (expText ((Lib.nDigits d : Int) + p - 1)) := by
  obtain ⟨-, -, -, h4, h5, -, -⟩ := cutD_spec hd
  have hpos : 1 ≤ nzD d := by
    rw [← h4]; exact List.length_pos_iff.2 (cutD_spec hd).2.1
  have hb : ∀ l : List Int, ∀ k, bm (l.take k) = (bm l).take k := fun l k => by unfold bm; rw [List.map_take]
  have hb2 : ∀ l : List Int, ∀ k, bm (l.drop k) = (bm l).drop k := fun l k => by unfold bm; rw [List.map_drop]
  unfold textE mantL
  rw [bm_app, bm_app, bm_app, hb, bm_digs, h4]
  have e1 : (Lib.decDigits d).take 1 = (cutD d).take 1 := by unfold cutD; rw [List.take_take, Nat.min_eq_left hpos]
  rw [e1]
  congr 2
  congr 1
  show bm (if nzD d ≤ 1 then [] else 46 :: ((digs d).take (nzD d)).drop 1) = _
  by_cases h : nzD d ≤ 1
  · rw [if_pos h, if_pos h]; rfl
  · rw [if_neg h, if_neg h]
    show 46 :: bm (((digs d).take (nzD d)).drop 1) = _
    rw [hb2, hb, bm_digs]; rfl
theorem exp_all : ((List.range 801).all fun i => decide (Lib.atoi (bm (expText ((i : Int) - 400))) = some ((i : Int) - 400)) && decide ((bm (expText ((i : Int) - 400))).length ≤ 4)) = true := by decide +kernel
theorem exp_at {x : Int} (h0 : -400 ≤ x) (h1 : x ≤ 400) : Lib.atoi (bm (expText x)) = some x ∧ (bm (expText x)).length ≤ 4 := by
  have h := List.all_eq_true.1 exp_all (x + 400).toNat (List.mem_range.2 (by omega))
  rw [show (((x + 400).toNat : Nat) : Int) - 400 = x from by omega, Bool.and_eq_true] at h
  exact ⟨of_decide_eq_true h.1, of_decide_eq_true h.2⟩
/-- a sign that is not there before parts the text. -/
theorem cut_char {A B : List UInt8} {c : UInt8} (h : ∀ x ∈ A, x ≠ c) : Lib.index (A ++ c :: B) [c] = (A.length : Nat) ∧ Lib.cut (A ++ [c] ++ B) [c] = (A, B, true) := by
  have hi : Lib.indexByte (A ++ c :: B) c = (A.length : Nat) := by
    have : Lib.indexAny (A ++ c :: B) [c] = (A.length : Nat) := Lib.indexAny_hit (x := c) (fun j b hj hb => by
      rw [List.getElem?_append_left hj] at hb
      have : b ≠ c := h b (List.mem_of_getElem? hb)
      simp [this]) (by rw [List.getElem?_append_right (Nat.le_refl _)]; simp) (by simp)
    rwa [Lib.indexAny_one] at this
  refine ⟨by rw [Lib.index_one]; exact hi, ?_⟩
  rw [List.append_assoc, List.singleton_append]
  unfold Lib.cut
  rw [Lib.index_one, hi, if_pos (by omega), Int.toNat_natCast]
  have e1 : (A ++ c :: B).take A.length = A := by rw [List.take_append_of_le_length (Nat.le_refl _), List.take_length]
  have e2 : (A ++ c :: B).drop (A.length + 1) = B := by
    rw [List.drop_append, List.drop_eq_nil_of_le (by omega)]
    simp
  show (_, (A ++ c :: B).drop (A.length + 1), true) = _
  rw [e1, e2]
theorem index_miss {A : List UInt8} {c : UInt8} (h : ∀ x ∈ A, x ≠ c) : Lib.index A [c] = -1 := by
  rw [Lib.index_one]
  have : Lib.indexAny A [c] = -1 := Lib.indexAny_none fun j b hj hb => by
    have : b ≠ c := h b (List.mem_of_getElem? hb)
    simp [this]
  rwa [Lib.indexAny_one] at this
/-- the point taken out: the digits. -/
theorem replace_point {D : List UInt8} (h : ∀ x ∈ D, x ≠ 46) (hne : D ≠ []) : Lib.replace (mantL D) [46] [] 1 = D := by
  unfold Lib.replace
  rw [if_neg (by decide)]
  by_cases hl : D.length ≤ 1
  · have e : mantL D = D := by
      unfold mantL
      rw [if_pos hl, List.append_nil, List.take_of_length_le hl]
    rw [e]
    generalize Lib.replaceNum D [46] 1 = n
    cases n with
    | zero => rfl
    | succ n => 
      unfold Lib.replaceK
      rw [index_miss h]; rfl
  · have e : mantL D = D.take 1 ++ 46 :: D.drop 1 := by unfold mantL; rw [if_neg hl]
    have h1 : ∀ x ∈ D.take 1, x ≠ 46 := fun x hx => h x (List.mem_of_mem_take hx)
    obtain ⟨hi, -⟩ := cut_char (B := D.drop 1) h1
    rw [e]
    have hcnt : Lib.replaceNum (D.take 1 ++ 46 :: D.drop 1) [46] 1 = 1 := by
      unfold Lib.replaceNum
      have hc : 1 ≤ Lib.count (D.take 1 ++ 46 :: D.drop 1) [46] := by
        unfold Lib.count Lib.countFrom
        rw [hi, if_neg (by simp)]
        omega
      rw [if_neg (by omega)]; rfl
    rw [hcnt, Lib.replaceK_hit [46] [] 0 _ _ hi]
    show _ ++ [] ++ (D.take 1 ++ 46 :: D.drop 1).drop ((D.take 1).length + 1) = D
    have e2 : (D.take 1 ++ 46 :: D.drop 1).drop ((D.take 1).length + 1) = D.drop 1 := by
      rw [List.drop_append, List.drop_eq_nil_of_le (by omega)]
      simp
    have e1 : (D.take 1 ++ 46 :: D.drop 1).take (D.take 1).length = D.take 1 := by rw [List.take_append_of_le_length (Nat.le_refl _), List.take_length]
    rw [e1, e2, List.append_nil, List.take_append_drop]
end Go.Proofs.YtdfodfflkmcgpaaGreatDoor
/- nums.floating, of every finite number above and below nought: its shortest digits, laid. -/
namespace Go.Proofs.YtdfodfflkmcgpaaGreatDoor
open Go.RowKit Near Parse
set_option linter.unusedVariables false
set_option maxRecDepth 100000
theorem ndig_le : ∀ (k u : Nat), 1 ≤ k → u < 10 ^ k → Lib.nDigits u ≤ k
  | 0, _, h, _ => absurd h (by omega)
  | k + 1, u, _, h => by
    by_cases h10 : u < 10
    · rw [Lib.nDigits_small h10]; omega
    · rw [Lib.nDigits_big h10]
      rw [Nat.pow_succ] at h
      rcases Nat.eq_zero_or_pos k with rfl | hk
      · simp at h; omega
      · have := ndig_le k (u / 10) hk (by omega)
        omega
/-- what is shown of rung R: digits without noughts at the ends, the power of ten of the first one; they are read as R, and no shorter ones are. -/
structure Shown (t L R : Nat) (D : List UInt8) (x : Int) : Prop where
  dig : ∀ c ∈ D, isDig c
  ne : D ≠ []
  first : ∀ c, D[0]? = some c → c ≠ 48
  last : ∀ c, D[D.length - 1]? = some c → c ≠ 48
  len : D.length ≤ 19
  lo : -400 ≤ x
  hi : x ≤ 400
  reads : ReadsAs t L (natOf D) (x + 1 - D.length) R
  short : ∀ y : Nat, ∀ z : Int, x + 1 - D.length < z → ReadsAs t L y z R → False
theorem shown_of {t L R d j : Nat} {q : Int} (ht : 1 ≤ t) (hR : R ≠ 0) (hr : ReadsAs t L d (q + (j : Nat)) R) (hu : ∀ x, ReadsAs t L x (q + 1) R → d = x ∧ j = 1) (hj : j ≤ 1) (hd : d < 1152921504606846976) (hq0 : -340 ≤ q) (hq1 : q ≤ 340) :
    0 < d ∧ Lib.nDigits d ≤ 19 ∧ Shown t L R (cutD d) ((Lib.nDigits d : Int) + (q + (j : Nat)) - 1) := by
  have hd0 : 0 < d := by
    rcases Nat.eq_zero_or_pos d with h | h
    · exfalso
      rw [h] at hr
      exact hR (RN.unique (Nat.two_pow_pos t) (Nat.pow_pos (by omega)) hr (reads_zero L _ ht))
    · exact h
  have hn : Lib.nDigits d ≤ 19 := ndig_le 19 d (by omega) (Nat.lt_of_lt_of_le hd (by decide))
  have hn1 := Lib.nDigits_pos d
  obtain ⟨s1, s2, s3, s4, s5, s6, s7⟩ := cutD_spec hd0
  have hpos : 1 ≤ nzD d := by rw [← s4]; exact List.length_pos_iff.2 s2
  refine ⟨hd0, hn, s1, s2, s3, s7, by omega, by omega, by omega, ?_, fun y z hz hy => ?_⟩
  · have hr2 := hr
    rw [s6] at hr2
    refine (reads_shift ?_).2 hr2
    rw [s4]; omega
  · -- of digits one shorter there are none
    have hz2 : z = (q + 1) + ((z - (q + 1)).toNat : Nat) := by rw [s4] at hz; omega
    have h1 := (reads_shift hz2).1 hy
    obtain ⟨h2, h3⟩ := hu _ h1
    -- the digits are a multiple of ten more
    have h4 : nzD d = Lib.nDigits d - (Lib.nDigits d - nzD d) := by omega
    rw [h3] at hz
    have h5 : 1 ≤ (z - (q + 1)).toNat - (Lib.nDigits d - nzD d) := by rw [s4] at hz; omega
    obtain ⟨a, ha⟩ : ∃ a, (z - (q + 1)).toNat = (Lib.nDigits d - nzD d) + 1 + a := ⟨(z - (q + 1)).toNat - (Lib.nDigits d - nzD d) - 1, by omega⟩
    have h6 : natOf (cutD d) * 10 ^ (Lib.nDigits d - nzD d) = y * 10 ^ a * 10 * 10 ^ (Lib.nDigits d - nzD d) := by
      rw [← s6, h2, ha, Nat.pow_add, Nat.pow_succ]; grind
    have h7 := Nat.eq_of_mul_eq_mul_right (Nat.pow_pos (by omega)) h6
    -- its last digit is not nought
    obtain ⟨m, c, hm⟩ : ∃ m c, cutD d = m ++ [c] := ⟨_, _, (List.dropLast_concat_getLast s2).symm⟩
    have hc := s7 c (by rw [hm]; simp)
    have hcd := s1 c (by rw [hm]; simp)
    unfold isDig at hcd
    rw [hm, natOf_snoc] at h7
    have hc48 : c.toNat ≠ 48 := fun h => hc (UInt8.toNat.inj h)
    omega
end Go.Proofs.YtdfodfflkmcgpaaGreatDoor
/- nums.floating at every finite number but nought, binary64. -/
namespace Go.Proofs.YtdfodfflkmcgpaaGreatDoor
open Go.RowKit Near Parse
set_option linter.unusedVariables false
set_option maxRecDepth 100000
theorem head_of {s : ByteArray} {a : UInt8} {l : List UInt8} (h : s = strL (a :: l)) (h0 : 0 < s.size) : s[0] = a := by
  subst h; rfl
theorem cmp_self (x : Int) : (some (compare x x) != some Ordering.eq) = false := by
  show (some (compareOfLessAndEq x x) != some Ordering.eq) = false
  unfold compareOfLessAndEq
  rw [if_neg (by omega), if_pos rfl]; rfl
theorem cmp_ne {x y : Int} (h : x ≠ y) : (some (compare x y) == some Ordering.eq) = false := by
  show (some (compareOfLessAndEq x y) == some Ordering.eq) = false
  unfold compareOfLessAndEq
  by_cases h1 : x < y
  · rw [if_pos h1]; rfl
  · rw [if_neg h1, if_neg h]; rfl
theorem order_self64 (neg : Bool) {R : Nat} (hR : R < 9218868437227405312) : (FloatKind.f64.format.order (sgn64 neg + R) (sgn64 neg + R) != some Ordering.eq) = false := by
  obtain ⟨x, y, c, hc, hx, hy, h⟩ := order_word Ieee.double dsw neg neg (a := R) (b := R) (by rw [dinf]; exact hR) (by rw [dinf]; exact hR)
  have hxy : x = y := Nat.eq_of_mul_eq_mul_right hc (hx.trans hy.symm)
  rw [word64, hxy] at h
  show (Ieee.double.order (sgn64 neg + R) (sgn64 neg + R) != some Ordering.eq) = false
  rw [h]
  exact cmp_self _
theorem order_max64 (neg : Bool) {R : Nat} (hR : R < 9218868437227405312) : (FloatKind.f64.format.order (sgn64 neg + R) 9218868437227405311 == some Ordering.gt) = false := by
  have h := order_gt Ieee.double dsw neg (a := R) (b := 9218868437227405311) (by rw [dinf]; exact hR) (by rw [dinf]; decide)
  rw [word64, show Ieee.double.word false 9218868437227405311 = 9218868437227405311 from rfl] at h
  show (Ieee.double.order (sgn64 neg + R) 9218868437227405311 == some Ordering.gt) = false
  rw [h]
  have hm := val_mono (h := Ieee.double.binade) (binade_pos _) (show R ≤ 9218868437227405311 by omega)
  rw [decide_eq_false (by omega), Bool.and_false]
theorem order_zero64 (neg : Bool) {R : Nat} (hR : R < 9218868437227405312) (hR0 : R ≠ 0) : (FloatKind.f64.format.order (sgn64 neg + R) 0 == some Ordering.eq) = false := by
  obtain ⟨x, y, c, hc, hx, hy, h⟩ := order_word Ieee.double dsw neg false (a := R) (b := 0) (by rw [dinf]; exact hR) (by rw [dinf]; decide)
  rw [word64, show Ieee.double.word false 0 = 0 from rfl] at h
  have hv0 : val Ieee.double.binade 0 = 0 := val_lt (binade_pos _)
  have hy0 : y = 0 := by
    rw [hv0] at hy
    rcases Nat.mul_eq_zero.1 hy with h1 | h1
    · exact h1
    · omega
  have hx0 : x ≠ 0 := by
    intro h1
    rw [h1, Nat.zero_mul] at hx
    exact val_pos (binade_pos _) hR0 hx.symm
  show (Ieee.double.order (sgn64 neg + R) 0 == some Ordering.eq) = false
  rw [h]
  refine cmp_ne ?_
  cases neg
  · simp; omega
  · simp; omega
theorem neg_any64 (neg : Bool) {R : Nat} (hR : R < 9223372036854775808) : Op.negFloat .f64 (sgn64 neg + R) = sgn64 (!neg) + R := by
  have h := neg64 hR
  cases neg
  · show Op.negFloat .f64 (0 + R) = _
    rw [Nat.zero_add]; exact h
  · show Op.negFloat .f64 (sgn64 true + R) = 0 + R
    rw [← h, Nat.zero_add]
    show (R ^^^ 2 ^ 63) ^^^ 2 ^ 63 = R
    rw [Nat.xor_assoc, Nat.xor_self, Nat.xor_zero]
set_option maxHeartbeats 1000000 in
theorem floating64_any {B : Nat} (neg : Bool) (R : Nat) (hR0 : R ≠ 0) (hR : R < 9218868437227405312) :
    ∃ D x, Shown 52 1074 R D x ∧ ∀ (w : World), Good B w → B ≤ w.heap.size → Calls Tryz.prog 40 #[.float .f64 (sgn64 neg + R), .int .i64 64] w fun e w' => e = .returned (.string (strL ((if neg then [45] else []) ++ laidL D x))) ∧ Below B w w' := by
  -- the significand and the exponent
  obtain ⟨mant, k, hmk⟩ : ∃ mant k, mant = (if R < 4503599627370496 then R else 4503599627370496 + R % 4503599627370496) ∧ k = R / 4503599627370496 - 1 := ⟨_, _, rfl, rfl⟩
  obtain ⟨hmant, hk⟩ := hmk
  have hkR : R = k * 2 ^ 52 + mant := by
    rw [show (2:Nat) ^ 52 = 4503599627370496 from rfl, hmant, hk]
    split <;> omega
  have hm0 : 0 < mant := by rw [hmant]; split <;> omega
  have hm1 : mant < 9007199254740992 := by rw [hmant]; split <;> omega
  have hk2 : k = 0 ∨ 2 ^ 52 ≤ mant := by
    rw [show (2:Nat) ^ 52 = 4503599627370496 from rfl, hmant, hk]
    split
    · left; omega
    · right; omega
  have hkl : k ≤ 2045 := by omega
  obtain ⟨A, hA⟩ : ∃ A, A = decide (mant = 2 ^ 52 ∧ 0 < k) := ⟨_, rfl⟩
  obtain ⟨u, hu⟩ : ∃ u : Int, u = (k : Int) - 1074 := ⟨_, rfl⟩
  obtain ⟨d, j, hsr, hrd, huq, hj, hd⟩ := short_spec (t := 52) (L := 1074) (k := k) (R := R) (u := u) (A := A) (by omega) (by omega) hm0 hm1 (by omega) hk2 hkR (by omega) (by omega) hA
  have hq0 : -340 ≤ shortQ A u ∧ shortQ A u ≤ 340 := by unfold shortQ; cases A <;> simp <;> omega
  obtain ⟨hd0, hn, hsh⟩ := shown_of (by omega) hR0 hrd huq hj hd hq0.1 hq0.2
  have hn1 := Lib.nDigits_pos d
  obtain ⟨p, hp⟩ : ∃ p : Int, p = shortQ A u + (j : Nat) := ⟨_, rfl⟩
  rw [← hp] at hsr hsh hrd
  refine ⟨_, _, hsh, fun w hG hB => ?_⟩
  have hA2 : decide (mant = 4503599627370496 ∧ (-1074 : Int) < u) = A := by
    rw [hA, show (2:Nat) ^ 52 = 4503599627370496 from rfl]
    rw [Bool.eq_iff_iff, decide_eq_true_eq, decide_eq_true_eq]
    constructor
    · rintro ⟨a, b⟩; exact ⟨a, by omega⟩
    · rintro ⟨a, b⟩; exact ⟨a, by omega⟩
  have hsg : sgn64 neg = if neg then 9223372036854775808 else 0 := rfl
  obtain ⟨b, hb⟩ : ∃ b, b = sgn64 neg + R := ⟨_, rfl⟩
  rw [← hb]
  have hb64 : b < 18446744073709551616 := by rw [hb, hsg]; split <;> omega
  have hbneg : ((b : Int) / 9223372036854775808 != 0) = neg := by
    rw [hb, hsg]
    cases neg
    · rw [bne_eq_false_iff_eq]; simp; omega
    · rw [bne_iff_ne]; simp; omega
  have hbe : bits .and .i64 ((b : Int) / 4503599627370496) 2047 = ((R / 4503599627370496 : Nat) : Int) := by
    rw [i64_andMask _ 11 (by omega) 2047 (by decide), hb, hsg]
    rw [show ((2 : Int) ^ 11) = 2048 by decide]
    cases neg
    · simp; omega
    · simp; omega
  have hbm : bits .and .u64 (b : Int) 4503599627370495 = ((R % 4503599627370496 : Nat) : Int) := by
    rw [u64_and (b : Int) 4503599627370495 (by omega) (by omega) (by omega) (by omega), Int.toNat_natCast, show (4503599627370495 : Int).toNat = 2 ^ 52 - 1 from rfl, Nat.and_two_pow_sub_one_eq_mod, hb, hsg, show (2:Nat) ^ 52 = 4503599627370496 from rfl]
    congr 1
    cases neg
    · simp
    · simp; omega
  obtain ⟨out, hout⟩ : ∃ out, out = signOf neg ++ textE d p := ⟨_, rfl⟩
  have hol : 0 < out.length := by
    have h9 : 0 < (textE d p).length := by
      unfold textE
      simp only [List.length_append, List.length_cons, List.length_nil]
      omega
    rw [hout, List.length_append]; omega
  have hF : ∀ (v : Value) (W : World), Good B W → Out B W W v 0 [] → Calls Tryz.prog 145 #[v, .float .f64 b, .int .u8 101, .int .i64 (-1)] W (Appended B W 0 [] out) := by
    intro v W h1 h2
    rw [hout]
    by_cases hsub : R < 4503599627370496
    · have e0 : R / 4503599627370496 = 0 := Nat.div_eq_of_lt hsub
      have em : mant = R := by rw [hmant, if_pos hsub]
      refine ftoa64_sub b mant neg v 0 [] W h1 h2 (by omega) ((R % 4503599627370496 : Nat) : Int) u hb64 (by rw [hbe, e0]; rfl) hbneg hbm (by rw [em, Nat.mod_eq_of_lt hsub]) trivial (Lib.hid (by omega)) hm0 hm1 A (Lib.hid hA2) (by omega) (by omega) (fun _ => by omega) d p (Lib.hid hsr) hd0 (by omega) (by omega) (by omega)
    · have em : mant = 4503599627370496 + R % 4503599627370496 := by rw [hmant, if_neg hsub]
      refine ftoa64_nor b mant neg v 0 [] W h1 h2 (by omega) ((R / 4503599627370496 : Nat) : Int) ((R % 4503599627370496 : Nat) : Int) u hb64 hbe hbneg hbm ?_ (by rw [beq_eq_false_iff_ne]; omega) (by omega) (by omega) (Lib.hid (by omega)) hm0 hm1 A (Lib.hid hA2) (by omega) (by omega) (fun _ => by omega) d p (Lib.hid hsr) hd0 (by omega) (by omega) (by omega)
      have h3 := u64_or_nat (R % 4503599627370496) 4503599627370496 (by omega) (by omega)
      have h4 : R % 4503599627370496 ||| 4503599627370496 = R % 4503599627370496 + 4503599627370496 := Nat.or_two_pow_eq_add_of_lt (n := 52) (Nat.mod_lt _ (by decide))
      rw [h4] at h3
      exact h3.trans (by rw [em]; omega)
  obtain ⟨x, hx⟩ : ∃ x : Int, x = (Lib.nDigits d : Int) + p - 1 := ⟨_, rfl⟩
  rw [← hx] at hsh ⊢
  obtain ⟨ex1, ex2⟩ := exp_at (x := x) hsh.lo hsh.hi
  have hte := bm_textE d p hd0
  rw [← hx] at hte
  have hlen := hsh.len
  have hml : (mantL (cutD d)).length ≤ 21 := by
    unfold mantL
    rw [List.length_append, List.length_take]
    split
    · simp; omega
    · rw [List.length_cons, List.length_drop]; omega
  have hSl : strOfNums out = strL ((if neg then [45] else []) ++ bm (textE d p)) := by
    rw [strOfNums_bm, hout, bm_app]
    cases neg <;> rfl
  have hdg := hsh.dig
  have hne := hsh.ne
  obtain ⟨c0, r0, hcr⟩ : ∃ c r, cutD d = c :: r := by
    cases hh : cutD d with
    | nil => exact absurd hh hne
    | cons c r => exact ⟨c, r, rfl⟩
  have hc0 : isDig c0 := hdg c0 (by rw [hcr]; exact List.mem_cons_self)
  have hf0 : ∃ r, bm (textE d p) = c0 :: r := by
    rw [hte, hcr]; unfold mantL; exact ⟨_, rfl⟩
  obtain ⟨r1, hf0⟩ := hf0
  have hszt : (bm (textE d p)).length ≤ 30 := by rw [hte, List.length_append, List.length_append]; simp; omega
  have hsz : (strOfNums out).size ≤ 40 ∧ 1 ≤ (strOfNums out).size := by
    rw [hSl, strL_size, List.length_append, hf0]
    rw [hf0] at hszt
    constructor
    · cases neg <;> simp at * <;> omega
    · simp; omega
  have key := floating_fin b 64 w hG hB (strOfNums out) (strL (bm (textE d p))) hsz.2 hsz.1 neg
    (by rw [hb]; exact order_self64 neg hR) (by rw [hb]; exact order_max64 neg hR) (by rw [hb, neg_any64 neg (by omega)]; exact order_max64 _ hR) (by rw [hb]; exact order_zero64 neg hR hR0)
    (Lib.hid fun W hGW hBW => format_public _ _ _ _ (format64_any b W hGW hBW out hol hF)) ?_ (Lib.hid ?_) (mantL (cutD d)) (bm (expText x)) x (Lib.hid ?_) (Lib.hid (by omega)) (Lib.hid ex1) (Lib.hid (by omega)) hsh.lo hsh.hi (cutD d) (Lib.hid ?_) (Lib.hid ⟨List.length_pos_iff.2 hne, by omega⟩)
  · exact key
  · cases neg
    · have h5 := head_of (a := c0) (l := r1) (s := strOfNums out) (by rw [hSl, hf0]; rfl) (by omega)
      rw [h5, beq_eq_false_iff_ne]
      unfold isDig at hc0
      omega
    · have h5 := head_of (a := 45) (l := bm (textE d p)) (s := strOfNums out) (by rw [hSl]; rfl) (by omega)
      rw [h5]; rfl
  · rw [hSl]
    cases neg
    · rfl
    · rw [if_pos rfl, strL_from]; rfl
  · rw [strL_list, hte]
    refine (cut_char ?_).2
    intro y hy
    unfold mantL at hy
    rcases List.mem_append.1 hy with h | h
    · exact dig_ne (hdg y (List.mem_of_mem_take h)) (.inr (by decide))
    · split at h
      · cases h
      · rcases List.mem_cons.1 h with h | h
        · rw [h]; decide
        · exact dig_ne (hdg y (List.mem_of_mem_drop h)) (.inr (by decide))
  · exact replace_point (fun y hy => dig_ne (hdg y hy) (.inl (by decide))) hne
end Go.Proofs.YtdfodfflkmcgpaaGreatDoor
/- nums.floating at every finite number but nought, binary32. -/
namespace Go.Proofs.YtdfodfflkmcgpaaGreatDoor
open Go.RowKit Near Parse
set_option linter.unusedVariables false
set_option maxRecDepth 100000
set_option maxHeartbeats 1000000 in
theorem floating32_any {B : Nat} (neg : Bool) (R : Nat) (hR0 : R ≠ 0) (hR : R < 2139095040) :
    ∃ y D x, floatToFloatBits .f32 (sgn32 neg + R) .f64 = some y ∧ Shown 23 149 R D x ∧ ∀ (w : World), Good B w → B ≤ w.heap.size → Calls Tryz.prog 40 #[.float .f64 y, .int .i64 32] w fun e w' => e = .returned (.string (strL ((if neg then [45] else []) ++ laidL D x))) ∧ Below B w w' := by
  obtain ⟨y, hy1, hy2⟩ := wide_cut neg (R := R) hR
  rw [word32] at hy1 hy2
  obtain ⟨r, hr, hv, he⟩ := wide_rung neg (R := R) hR
  have hyr : y = sgn64 neg + r := by
    have h1 := hy1
    obtain ⟨m0, k0, g1, g2, g3⟩ := read_word2 Ieee.single neg (r := R) (by rw [sinf]; exact hR) ssw
    have gdec : FloatKind.decode .f32 (sgn32 neg + R) = .number neg m0 (Ieee.single.leastPlace + (k0 : Int)) := by rw [← word32]; exact g1
    rw [word32, gdec] at he
    unfold floatToFloatBits at h1
    rw [if_neg (by decide), gdec] at h1
    have h2 : (if (FloatKind.decode .f64 (FloatKind.encode .f64 (.number neg m0 (Ieee.single.leastPlace + (k0 : Int))))).isInfinity then none else some (FloatKind.encode .f64 (.number neg m0 (Ieee.single.leastPlace + (k0 : Int))))) = some y := h1
    rw [he] at h2
    have h3 : (FloatKind.decode .f64 (Ieee.double.word neg r)).isInfinity = false := read_inf Ieee.double neg (by rw [dinf]; exact hr) dsw
    rw [h3] at h2
    have h4 : some (Ieee.double.word neg r) = some y := h2
    rw [← Option.some.inj h4, word64]
  have hr0 : r ≠ 0 := by
    intro h
    rw [h, val_lt (Nat.two_pow_pos 52)] at hv
    have h1 := val_pos (Nat.two_pow_pos 23) hR0
    rcases Nat.mul_eq_zero.1 hv.symm with h2 | h2
    · exact h1 h2
    · have := e925_pos; omega
  have hr : r < 9218868437227405312 := hr
  clear hv he
  -- the significand and the exponent
  obtain ⟨mant, k, hmk⟩ : ∃ mant k, mant = (if R < 8388608 then R else 8388608 + R % 8388608) ∧ k = R / 8388608 - 1 := ⟨_, _, rfl, rfl⟩
  obtain ⟨hmant, hk⟩ := hmk
  have hkR : R = k * 2 ^ 23 + mant := by
    rw [show (2:Nat) ^ 23 = 8388608 from rfl, hmant, hk]
    split <;> omega
  have hm0 : 0 < mant := by rw [hmant]; split <;> omega
  have hm1 : mant < 16777216 := by rw [hmant]; split <;> omega
  have hk2 : k = 0 ∨ 2 ^ 23 ≤ mant := by
    rw [show (2:Nat) ^ 23 = 8388608 from rfl, hmant, hk]
    split
    · left; omega
    · right; omega
  have hkl : k ≤ 253 := by omega
  obtain ⟨A, hA⟩ : ∃ A, A = decide (mant = 2 ^ 23 ∧ 0 < k) := ⟨_, rfl⟩
  obtain ⟨u, hu⟩ : ∃ u : Int, u = (k : Int) - 149 := ⟨_, rfl⟩
  obtain ⟨d, j, hsr, hrd, huq, hj, hd⟩ := short_spec (t := 23) (L := 149) (k := k) (R := R) (u := u) (A := A) (by omega) (by omega) hm0 hm1 (by omega) hk2 hkR (by omega) (by omega) hA
  have hq0 : -340 ≤ shortQ A u ∧ shortQ A u ≤ 340 := by unfold shortQ; cases A <;> simp <;> omega
  obtain ⟨hd0, hn, hsh⟩ := shown_of (by omega) hR0 hrd huq hj hd hq0.1 hq0.2
  have hn1 := Lib.nDigits_pos d
  obtain ⟨p, hp⟩ : ∃ p : Int, p = shortQ A u + (j : Nat) := ⟨_, rfl⟩
  rw [← hp] at hsr hsh hrd
  refine ⟨y, _, _, hy1, hsh, fun w hG hB => ?_⟩
  have hA2 : decide (mant = 8388608 ∧ (-149 : Int) < u) = A := by
    rw [hA, show (2:Nat) ^ 23 = 8388608 from rfl]
    rw [Bool.eq_iff_iff, decide_eq_true_eq, decide_eq_true_eq]
    constructor
    · rintro ⟨a, b⟩; exact ⟨a, by omega⟩
    · rintro ⟨a, b⟩; exact ⟨a, by omega⟩
  have hsg : sgn32 neg = if neg then 2147483648 else 0 := rfl
  obtain ⟨b, hb⟩ : ∃ b, b = sgn32 neg + R := ⟨_, rfl⟩
  have hb64 : b < 4294967296 := by rw [hb, hsg]; split <;> omega
  have hbneg : ((b : Int) / 2147483648 != 0) = neg := by
    rw [hb, hsg]
    cases neg
    · rw [bne_eq_false_iff_eq]; simp; omega
    · rw [bne_iff_ne]; simp; omega
  have hbe : bits .and .i64 ((b : Int) / 8388608) 255 = ((R / 8388608 : Nat) : Int) := by
    rw [i64_andMask _ 8 (by omega) 255 (by decide), hb, hsg]
    rw [show ((2 : Int) ^ 8) = 256 by decide]
    cases neg
    · simp; omega
    · simp; omega
  have hbm : bits .and .u64 (b : Int) 8388607 = ((R % 8388608 : Nat) : Int) := by
    rw [u64_and (b : Int) 8388607 (by omega) (by omega) (by omega) (by omega), Int.toNat_natCast, show (8388607 : Int).toNat = 2 ^ 23 - 1 from rfl, Nat.and_two_pow_sub_one_eq_mod, hb, hsg, show (2:Nat) ^ 23 = 8388608 from rfl]
    congr 1
    cases neg
    · simp
    · simp; omega
  obtain ⟨out, hout⟩ : ∃ out, out = signOf neg ++ textE d p := ⟨_, rfl⟩
  have hol : 0 < out.length := by
    have h9 : 0 < (textE d p).length := by
      unfold textE
      simp only [List.length_append, List.length_cons, List.length_nil]
      omega
    rw [hout, List.length_append]; omega
  have hF : ∀ (v : Value) (W : World), Good B W → Out B W W v 0 [] → Calls Tryz.prog 144 #[v, .float .f32 b, .int .u8 101, .int .i64 (-1)] W (Appended B W 0 [] out) := by
    intro v W h1 h2
    rw [hout]
    by_cases hsub : R < 8388608
    · have e0 : R / 8388608 = 0 := Nat.div_eq_of_lt hsub
      have em : mant = R := by rw [hmant, if_pos hsub]
      refine ftoa32_sub b mant neg v 0 [] W h1 h2 (by omega) ((R % 8388608 : Nat) : Int) u hb64 (by rw [hbe, e0]; rfl) hbneg hbm (by rw [em, Nat.mod_eq_of_lt hsub]) trivial (Lib.hid (by omega)) hm0 hm1 A (Lib.hid hA2) (by omega) (by omega) (fun _ => by omega) d p (Lib.hid hsr) hd0 (by omega) (by omega) (by omega)
    · have em : mant = 8388608 + R % 8388608 := by rw [hmant, if_neg hsub]
      refine ftoa32_nor b mant neg v 0 [] W h1 h2 (by omega) ((R / 8388608 : Nat) : Int) ((R % 8388608 : Nat) : Int) u hb64 hbe hbneg hbm ?_ (by rw [beq_eq_false_iff_ne]; omega) (by omega) (by omega) (Lib.hid (by omega)) hm0 hm1 A (Lib.hid hA2) (by omega) (by omega) (fun _ => by omega) d p (Lib.hid hsr) hd0 (by omega) (by omega) (by omega)
      have h3 := u64_or_nat (R % 8388608) 8388608 (by omega) (by omega)
      have h4 : R % 8388608 ||| 8388608 = R % 8388608 + 8388608 := Nat.or_two_pow_eq_add_of_lt (n := 23) (Nat.mod_lt _ (by decide))
      rw [h4] at h3
      exact h3.trans (by rw [em]; omega)
  obtain ⟨x, hx⟩ : ∃ x : Int, x = (Lib.nDigits d : Int) + p - 1 := ⟨_, rfl⟩
  rw [← hx] at hsh ⊢
  obtain ⟨ex1, ex2⟩ := exp_at (x := x) hsh.lo hsh.hi
  have hte := bm_textE d p hd0
  rw [← hx] at hte
  have hlen := hsh.len
  have hml : (mantL (cutD d)).length ≤ 21 := by
    unfold mantL
    rw [List.length_append, List.length_take]
    split
    · simp; omega
    · rw [List.length_cons, List.length_drop]; omega
  have hSl : strOfNums out = strL ((if neg then [45] else []) ++ bm (textE d p)) := by
    rw [strOfNums_bm, hout, bm_app]
    cases neg <;> rfl
  have hdg := hsh.dig
  have hne := hsh.ne
  obtain ⟨c0, r0, hcr⟩ : ∃ c r, cutD d = c :: r := by
    cases hh : cutD d with
    | nil => exact absurd hh hne
    | cons c r => exact ⟨c, r, rfl⟩
  have hc0 : isDig c0 := hdg c0 (by rw [hcr]; exact List.mem_cons_self)
  have hf0 : ∃ r, bm (textE d p) = c0 :: r := by
    rw [hte, hcr]; unfold mantL; exact ⟨_, rfl⟩
  obtain ⟨r1, hf0⟩ := hf0
  have hszt : (bm (textE d p)).length ≤ 30 := by rw [hte, List.length_append, List.length_append]; simp; omega
  have hsz : (strOfNums out).size ≤ 40 ∧ 1 ≤ (strOfNums out).size := by
    rw [hSl, strL_size, List.length_append, hf0]
    rw [hf0] at hszt
    constructor
    · cases neg <;> simp at * <;> omega
    · simp; omega
  have key := floating_fin y 32 w hG hB (strOfNums out) (strL (bm (textE d p))) hsz.2 hsz.1 neg
    (by rw [hyr]; exact order_self64 neg hr) (by rw [hyr]; exact order_max64 neg hr) (by rw [hyr, neg_any64 neg (by omega)]; exact order_max64 _ hr) (by rw [hyr]; exact order_zero64 neg hr hr0)
    (Lib.hid fun W hGW hBW => format_public _ _ _ _ (format32_any b y W hGW hBW out hol (fun w => run_convert_float_float w 59 60 .f64 .f32 _ _ (by kernel_rfl) (by kernel_rfl) (hb ▸ hy2)) hF)) ?_ (Lib.hid ?_) (mantL (cutD d)) (bm (expText x)) x (Lib.hid ?_) (Lib.hid (by omega)) (Lib.hid ex1) (Lib.hid (by omega)) hsh.lo hsh.hi (cutD d) (Lib.hid ?_) (Lib.hid ⟨List.length_pos_iff.2 hne, by omega⟩)
  · exact key
  · cases neg
    · have h5 := head_of (a := c0) (l := r1) (s := strOfNums out) (by rw [hSl, hf0]; rfl) (by omega)
      rw [h5, beq_eq_false_iff_ne]
      unfold isDig at hc0
      omega
    · have h5 := head_of (a := 45) (l := bm (textE d p)) (s := strOfNums out) (by rw [hSl]; rfl) (by omega)
      rw [h5]; rfl
  · rw [hSl]
    cases neg
    · rfl
    · rw [if_pos rfl, strL_from]; rfl
  · rw [strL_list, hte]
    refine (cut_char ?_).2
    intro z hz
    unfold mantL at hz
    rcases List.mem_append.1 hz with h | h
    · exact dig_ne (hdg z (List.mem_of_mem_take h)) (.inr (by decide))
    · split at h
      · cases h
      · rcases List.mem_cons.1 h with h | h
        · rw [h]; decide
        · exact dig_ne (hdg z (List.mem_of_mem_drop h)) (.inr (by decide))
  · exact replace_point (fun z hz => dig_ne (hdg z hz) (.inl (by decide))) hne
end Go.Proofs.YtdfodfflkmcgpaaGreatDoor
/- What is shown is a JSON number of the same value. Of lists alone. -/
namespace Go.Proofs.YtdfodfflkmcgpaaGreatDoor
open Go.RowKit Near Parse
set_option linter.unusedVariables false
set_option maxRecDepth 100000
/-- a text that is a number, of value N by ten to the q, no digit left out. -/
def IsNum (l : List UInt8) (neg : Bool) (N : Nat) (q : Int) : Prop :=
  ∃ W P hasP hasE ec xt eneg X, NumText l neg W P hasP hasE ec xt eneg X ∧ (W.length = 1 ∨ W[0]? ≠ some 48) ∧ truncN (leadDigits (W ++ P)) (leadDigits (W ++ P)).length = false ∧
    ∃ k : Nat, valN W P = N * 10 ^ k ∧ q = valP P hasE eneg X + k
def zerosL (n : Nat) : List UInt8 := Lib.repeatL [48] n
theorem zeros_len (n : Nat) : (zerosL n).length = n := by
  induction n with
  | zero => rfl
  | succ n ih => show (48 :: zerosL n).length = n + 1; rw [List.length_cons, ih]
theorem zeros_mem {n : Nat} {c : UInt8} (h : c ∈ zerosL n) : c = 48 := by
  induction n with
  | zero => cases h
  | succ n ih =>
    have h : c ∈ 48 :: zerosL n := h
    rcases List.mem_cons.1 h with h | h
    · exact h
    · exact ih h
theorem isDig48 : isDig 48 := by unfold isDig; decide
theorem lead_same {D r : List UInt8} (hne : D ≠ []) (hf : ∀ c, D[0]? = some c → c ≠ 48) : leadDigits (D ++ r) = D ++ r := by
  obtain ⟨a, l, rfl⟩ : ∃ a l, D = a :: l := by
    cases D with
    | nil => exact absurd rfl hne
    | cons a l => exact ⟨a, l, rfl⟩
  have ha := hf a rfl
  have e : ((a :: l) ++ r).dropWhile (· == 48) = (a :: l) ++ r := by
    rw [List.cons_append, List.dropWhile_cons_of_neg (by simp [ha])]
  unfold leadDigits
  rw [e, if_neg (by simp)]
theorem lead_zeros {Z D : List UInt8} (hz : ∀ c ∈ Z, c = 48) : leadDigits (Z ++ D) = leadDigits D := by
  have e : (Z ++ D).dropWhile (· == 48) = D.dropWhile (· == 48) := by
    induction Z with
    | nil => rfl
    | cons a l ih =>
      have ha := hz a List.mem_cons_self
      rw [List.cons_append, List.dropWhile_cons_of_pos (by simp [ha])]
      exact ih fun c hc => hz c (List.mem_cons_of_mem _ hc)
  unfold leadDigits
  rw [e]
theorem trunc_zeros {D Z : List UInt8} (hl : D.length ≤ 19) (hz : ∀ c ∈ Z, c = 48) : truncN (D ++ Z) (D ++ Z).length = false := by
  unfold truncN
  rw [List.take_length, List.drop_append, List.drop_eq_nil_of_le hl, List.nil_append, List.any_eq_false]
  intro c hc
  have := hz c (List.mem_of_mem_drop hc)
  simp [this]
theorem get_take0 {D : List UInt8} {n : Nat} (h : 0 < n) : (D.take n)[0]? = D[0]? := List.getElem?_take_of_lt h
theorem laid_num {t L R : Nat} {D : List UInt8} {x : Int} (H : Shown t L R D x) (neg : Bool) : IsNum ((if neg then [45] else []) ++ laidL D x) neg (natOf D) (x + 1 - D.length) := by
  have hne := H.ne
  have hd := H.dig
  have hf := H.first
  have hl19 := H.len
  have hl1 : 1 ≤ D.length := List.length_pos_iff.2 hne
  have hlo := H.lo
  have hhi := H.hi
  have hw0 : D[0]? ≠ some 48 := fun h => hf 48 h rfl
  have hlead : leadDigits D = D := by have := lead_same (r := []) hne hf; rwa [List.append_nil] at this
  unfold laidL
  by_cases h1 : (D.length : Int) - 1 ≤ x ∧ x ≤ 20
  · rw [if_pos h1]
    have hz : ∀ c ∈ zerosL (x - D.length + 1).toNat, c = 48 := fun c hc => zeros_mem hc
    refine ⟨D ++ zerosL (x - D.length + 1).toNat, [], false, false, 0, [], false, [], ⟨?_, ?_, ?_, ?_, ?_, ?_, ?_, ?_, ?_⟩, .inr ?_, ?_, (x - D.length + 1).toNat, ?_, ?_⟩
    · unfold ptText; simp; rfl
    · intro c hc
      rcases List.mem_append.1 hc with h | h
      · exact hd c h
      · rw [hz c h]; exact isDig48
    · intro c hc; cases hc
    · simp [hne]
    · exact fun _ => rfl
    · intro h; cases h
    · intro h; cases h
    · intro h; cases h
    · exact fun _ => rfl
    · rw [List.getElem?_append_left hl1]; exact hw0
    · rw [List.append_nil, lead_same hne hf]
      exact trunc_zeros hl19 hz
    · unfold valN
      rw [List.append_nil, natOf_append, natOf_zeros hz, zeros_len, Nat.add_zero]
    · unfold valP; simp; omega
  · rw [if_neg h1]
    by_cases h2 : 0 ≤ x ∧ x ≤ 20
    · rw [if_pos h2]
      have hx1 : (x + 1).toNat < D.length := by omega
      have hx0 : 0 < (x + 1).toNat := by omega
      refine ⟨D.take (x + 1).toNat, D.drop (x + 1).toNat, true, false, 0, [], false, [], ⟨?_, ?_, ?_, ?_, ?_, ?_, ?_, ?_, ?_⟩, .inr ?_, ?_, 0, ?_, ?_⟩
      · unfold ptText; simp
      · exact fun c hc => hd c (List.mem_of_mem_take hc)
      · exact fun c hc => hd c (List.mem_of_mem_drop hc)
      · intro h
        have h9 := congrArg List.length h
        rw [List.length_take, List.length_nil] at h9
        omega
      · intro h; cases h
      · intro _ h
        have h9 := congrArg List.length h
        rw [List.length_drop, List.length_nil] at h9
        omega
      · intro h; cases h
      · intro h; cases h
      · exact fun _ => rfl
      · rw [get_take0 hx0]; exact hw0
      · rw [List.take_append_drop, hlead]
        exact truncN_small hl19
      · unfold valN; rw [List.take_append_drop, Nat.pow_zero, Nat.mul_one]
      · unfold valP; rw [List.length_drop]; simp; omega
    · rw [if_neg h2]
      by_cases h3 : x < 0 ∧ -6 ≤ x
      · rw [if_pos h3]
        have hz : ∀ c ∈ [48] ++ zerosL (-x - 1).toNat, c = 48 := by
          intro c hc
          rcases List.mem_append.1 hc with h | h
          · exact List.mem_singleton.1 h
          · exact zeros_mem h
        refine ⟨[48], zerosL (-x - 1).toNat ++ D, true, false, 0, [], false, [], ⟨?_, ?_, ?_, ?_, ?_, ?_, ?_, ?_, ?_⟩, .inl rfl, ?_, 0, ?_, ?_⟩
        · unfold ptText; simp; rfl
        · intro c hc; rw [List.mem_singleton.1 hc]; exact isDig48
        · intro c hc
          rcases List.mem_append.1 hc with h | h
          · rw [zeros_mem h]; exact isDig48
          · exact hd c h
        · simp
        · intro h; cases h
        · intro _ h
          have := congrArg List.length h
          rw [List.length_append] at this
          simp at this
          exact hne this.2
        · intro h; cases h
        · intro h; cases h
        · exact fun _ => rfl
        · rw [← List.append_assoc, lead_zeros hz, hlead]
          exact truncN_small hl19
        · unfold valN
          rw [← List.append_assoc, natOf_append, natOf_zeros hz, Nat.zero_mul, Nat.zero_add, Nat.pow_zero, Nat.mul_one]
        · unfold valP; rw [List.length_append, zeros_len]; simp; omega
      · rw [if_neg h3]
        obtain ⟨y1, y2, y3⟩ := dec_all x.natAbs
        have hxt : ∃ xt, (if x < 0 then [45] ++ Lib.itoa (-x) else [43] ++ Lib.itoa x) = xt ∧ ExpText xt (decide (x < 0)) (Lib.decDigits x.natAbs) := by
          refine ⟨_, rfl, ?_, y1, y3⟩
          by_cases hx : x < 0
          · left
            refine ⟨decide_eq_true hx, ?_⟩
            rw [if_pos hx]
            unfold Lib.itoa
            rw [if_neg (by omega), show (-x).toNat = x.natAbs by omega]; rfl
          · right; left
            refine ⟨decide_eq_false hx, ?_⟩
            rw [if_neg hx]
            unfold Lib.itoa
            rw [if_neg hx, show x.toNat = x.natAbs by omega]; rfl
        obtain ⟨xt, hxe, hxt⟩ := hxt
        rw [hxe]
        have hcap : expCap (decide (x < 0)) (Lib.decDigits x.natAbs) = x := by
          unfold expCap expInt
          rw [y2]
          by_cases hx : x < 0
          · rw [if_pos (decide_eq_true hx)]; omega
          · rw [if_neg (by rw [decide_eq_false hx]; simp)]; omega
        refine ⟨D.take 1, D.drop 1, decide (1 < D.length), true, 101, xt, decide (x < 0), Lib.decDigits x.natAbs, ⟨?_, ?_, ?_, ?_, ?_, ?_, ?_, ?_, ?_⟩, .inr ?_, ?_, 0, ?_, ?_⟩
        · unfold ptText
          by_cases hl : 1 < D.length
          · congr 1
            rw [if_pos hl, decide_eq_true hl]; simp
          · congr 1
            rw [if_neg hl, decide_eq_false hl, List.take_of_length_le (by omega)]; simp
        · exact fun c hc => hd c (List.mem_of_mem_take hc)
        · exact fun c hc => hd c (List.mem_of_mem_drop hc)
        · intro h
          have h9 := congrArg List.length h
          rw [List.length_take, List.length_nil] at h9
          omega
        · intro h
          have := of_decide_eq_false h
          exact List.drop_eq_nil_of_le (by omega)
        · intro h h4
          have := of_decide_eq_true h
          have h5 := congrArg List.length h4
          rw [List.length_drop, List.length_nil] at h5
          omega
        · exact fun _ => .inl rfl
        · exact fun _ => hxt
        · intro h; cases h
        · rw [get_take0 (by omega)]; exact hw0
        · rw [List.take_append_drop, hlead]
          exact truncN_small hl19
        · unfold valN; rw [List.take_append_drop, Nat.pow_zero, Nat.mul_one]
        · unfold valP; rw [List.length_drop, if_pos rfl, hcap]; simp; omega
end Go.Proofs.YtdfodfflkmcgpaaGreatDoor
