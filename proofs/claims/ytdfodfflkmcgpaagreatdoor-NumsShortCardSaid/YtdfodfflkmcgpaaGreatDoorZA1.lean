/- Plain theory of rounding: which floating number is nearest; how far products by powers of ten stay from whole numbers; what 64 by 128 bits of a product tell of the exact one. Of whole numbers alone; the table of powers is the form's constant. -/
import GoSem.PinnedTables
namespace Go.Proofs.YtdfodfflkmcgpaaGreatDoor
namespace Near

/-- the value of a rung in units of the least place; h is two to the mantissa's bits without the hidden one. -/
def val (h r : Nat) : Nat := if r < h then r else (h + r % h) * 2 ^ (r / h - 1)

/-- twice the midway between a rung and the next one. -/
def mid (h r : Nat) : Nat := val h r + val h (r + 1)

/-- n / d (in units of the least place) is read as rung r. -/
def RN (h n d r : Nat) : Prop :=
  (r = 0 ∨ mid h (r - 1) * d < 2 * n ∨ (mid h (r - 1) * d = 2 * n ∧ r % 2 = 0)) ∧
  (2 * n < mid h r * d ∨ (2 * n = mid h r * d ∧ r % 2 = 0))

theorem val_lt {h r : Nat} (hr : r < h) : val h r = r := by unfold val; rw [if_pos hr]

theorem val_at {h k j : Nat} (hj : j < h) : val h ((k + 1) * h + j) = (h + j) * 2 ^ k := by
  have hh : 0 < h := by omega
  unfold val
  rw [if_neg (by rw [Nat.succ_mul]; omega)]
  have e1 : ((k + 1) * h + j) % h = j := by rw [Nat.mul_comm, Nat.mul_add_mod, Nat.mod_eq_of_lt hj]
  have e2 : ((k + 1) * h + j) / h = k + 1 := by rw [Nat.mul_comm, Nat.mul_add_div hh, Nat.div_eq_of_lt hj, Nat.add_zero]
  rw [e1, e2, Nat.add_sub_cancel]

/-- every rung from h on is one of these. -/
theorem split {h r : Nat} (hh : 0 < h) (hr : h ≤ r) : ∃ k j, j < h ∧ r = (k + 1) * h + j := by
  have hd := Nat.div_add_mod r h
  have h1 : 1 ≤ r / h := (Nat.le_div_iff_mul_le hh).2 (by omega)
  exact ⟨r / h - 1, r % h, Nat.mod_lt _ hh, by rw [Nat.sub_add_cancel h1, Nat.mul_comm]; omega⟩

/-- the step from a rung to the next: one unit below 2 h, else two to the binade. -/
theorem val_succ_lt {h r : Nat} (hr : r < h) : val h (r + 1) = val h r + 1 := by
  rw [val_lt hr]
  rcases Nat.lt_or_ge (r + 1) h with h1 | h1
  · rw [val_lt h1]
  · have : r + 1 = (0 + 1) * h + 0 := by omega
    rw [this, val_at (by omega)]; omega

theorem val_succ_at {h k j : Nat} (hj : j < h) : val h ((k + 1) * h + j + 1) = val h ((k + 1) * h + j) + 2 ^ k := by
  rw [val_at hj]
  rcases Nat.lt_or_ge (j + 1) h with h1 | h1
  · rw [Nat.add_assoc, val_at h1, ← Nat.succ_mul]; rfl
  · have e : (k + 1) * h + j + 1 = (k + 1 + 1) * h + 0 := by
      have : j + 1 = h := by omega
      rw [Nat.add_assoc, this, ← Nat.succ_mul]; rfl
    rw [e, val_at (by omega), Nat.pow_succ]
    have e2 : h + j + 1 = h + h := by omega
    calc (h + 0) * (2 ^ k * 2) = (h + h) * 2 ^ k := by rw [Nat.add_zero, ← Nat.two_mul, Nat.mul_comm 2 h, Nat.mul_assoc, Nat.mul_comm 2]
      _ = (h + j + 1) * 2 ^ k := by rw [e2]
      _ = _ := by rw [Nat.succ_mul]

theorem val_lt_succ {h : Nat} (hh : 0 < h) (r : Nat) : val h r < val h (r + 1) := by
  rcases Nat.lt_or_ge r h with h1 | h1
  · rw [val_succ_lt h1]; omega
  · obtain ⟨k, j, hj, rfl⟩ := split hh h1
    rw [val_succ_at hj]; have := Nat.two_pow_pos k; omega

theorem val_mono_lt {h : Nat} (hh : 0 < h) {r s : Nat} (hrs : r < s) : val h r < val h s := by
  induction s with
  | zero => omega
  | succ s ih =>
    rcases Nat.lt_or_ge r s with h1 | h1
    · exact Nat.lt_trans (ih h1) (val_lt_succ hh s)
    · obtain rfl : r = s := by omega
      exact val_lt_succ hh r

theorem val_mono {h : Nat} (hh : 0 < h) {r s : Nat} (hrs : r ≤ s) : val h r ≤ val h s := by
  rcases Nat.lt_or_ge r s with h1 | h1
  · exact Nat.le_of_lt (val_mono_lt hh h1)
  · obtain rfl : r = s := by omega
    exact Nat.le_refl _

theorem mid_mono_lt {h : Nat} (hh : 0 < h) {r s : Nat} (hrs : r < s) : mid h r < mid h s :=
  Nat.add_lt_add (val_mono_lt hh hrs) (val_mono_lt hh (by omega))

theorem mid_mono {h : Nat} (hh : 0 < h) {r s : Nat} (hrs : r ≤ s) : mid h r ≤ mid h s :=
  Nat.add_le_add (val_mono hh hrs) (val_mono hh (by omega))

/-- what is less is read as no more. -/
theorem RN.mono {h n d r m e s : Nat} (hh : 0 < h) (hd : 0 < d) (he : 0 < e) (hr : RN h n d r) (hs : RN h m e s) (hle : n * e ≤ m * d) : r ≤ s := by
  rcases Nat.lt_or_ge s r with hlt | hge
  · exfalso
    have h1 := hr.1
    have h2 := hs.2
    have hm : mid h s ≤ mid h (r - 1) := mid_mono hh (by omega)
    -- 2 m ≤ mid s * e ; mid (r-1) * d ≤ 2 n
    have a1 : mid h (r - 1) * d ≤ 2 * n := by omega
    have a2 : 2 * m ≤ mid h s * e := by omega
    have b1 : mid h (r - 1) * d * e ≤ 2 * n * e := Nat.mul_le_mul_right e a1
    have b2 : 2 * m * d ≤ mid h s * e * d := Nat.mul_le_mul_right d a2
    have b3 : mid h s * e * d ≤ mid h (r - 1) * d * e := by
      rw [Nat.mul_assoc, Nat.mul_assoc, Nat.mul_comm e d]; exact Nat.mul_le_mul_right _ hm
    have b4 : 2 * n * e ≤ 2 * m * d := by rw [Nat.mul_assoc, Nat.mul_assoc]; exact Nat.mul_le_mul_left 2 hle
    -- all equal
    have c1 : mid h s * e * d = mid h (r - 1) * d * e := by omega
    have c2 : mid h s * (e * d) = mid h (r - 1) * (e * d) := by rw [← Nat.mul_assoc, c1, Nat.mul_assoc, Nat.mul_comm d e]
    have c3 : mid h s = mid h (r - 1) := Nat.eq_of_mul_eq_mul_right (Nat.mul_pos he hd) c2
    have c4 : s = r - 1 := by
      rcases Nat.lt_or_ge s (r - 1) with h' | h'
      · have := mid_mono_lt (r := s) (s := r - 1) hh h'; omega
      · omega
    have d1 : mid h (r - 1) * d * e = 2 * n * e := by omega
    have d2 : 2 * m * d = mid h s * e * d := by omega
    have d3 : mid h (r - 1) * d = 2 * n := Nat.eq_of_mul_eq_mul_right he d1
    have d4 : 2 * m = mid h s * e := Nat.eq_of_mul_eq_mul_right hd d2
    omega
  · exact hge

theorem RN.unique {h n d r s : Nat} (hh : 0 < h) (hd : 0 < d) (hr : RN h n d r) (hs : RN h n d s) : r = s :=
  Nat.le_antisymm (hr.mono hh hd hd hs (Nat.le_refl _)) (hs.mono hh hd hd hr (Nat.le_refl _))

/-- the same for two ways to write one value. -/
theorem RN.same {h n d r m e s : Nat} (hh : 0 < h) (hd : 0 < d) (he : 0 < e) (hr : RN h n d r) (hs : RN h m e s) (heq : n * e = m * d) : r = s :=
  Nat.le_antisymm (hr.mono hh hd he hs (Nat.le_of_eq heq)) (hs.mono hh he hd hr (Nat.le_of_eq heq.symm))

/-- a number itself is read as itself. -/
theorem RN.self {h : Nat} (hh : 0 < h) (r : Nat) : RN h (val h r) 1 r := by
  refine ⟨?_, .inl ?_⟩
  · rcases Nat.eq_zero_or_pos r with rfl | hp
    · exact .inl rfl
    · refine .inr (.inl ?_)
      have := val_lt_succ hh (r - 1)
      rw [Nat.sub_add_cancel hp] at this
      unfold mid; rw [Nat.sub_add_cancel hp]; omega
  · have := val_lt_succ hh r
    unfold mid; omega

/-- N is the whole number nearest to n / d, of two the even one. -/
def Even (n d N : Nat) : Prop :=
  (2 * N * d < 2 * n + d ∨ (2 * N * d = 2 * n + d ∧ N % 2 = 0)) ∧ (2 * n < 2 * N * d + d ∨ (2 * n = 2 * N * d + d ∧ N % 2 = 0))

/-- a significand of the right size, rounded: the rung. -/
theorem RN.of_even {h n d k N : Nat} (h2 : 2 ≤ h) (hev : h % 2 = 0) (hd : 0 < d) (hN : Even n (d * 2 ^ k) N) (hlow : k = 0 ∨ h * 2 ^ k * d ≤ n) (hup : N ≤ 2 * h) : RN h n d (k * h + N) := by
  obtain ⟨hl, hu⟩ := hN
  have hp := Nat.two_pow_pos k
  have par : (k * h + N) % 2 = N % 2 := by
    have : (k * h) % 2 = 0 := by rw [Nat.mul_mod, hev, Nat.mul_zero, Nat.zero_mod]
    omega
  have hdk : 0 < d * 2 ^ k := Nat.mul_pos hd hp
  -- N ≥ h if k > 0
  have hNh : k = 0 ∨ h ≤ N := by
    rcases hlow with h0 | h1
    · exact .inl h0
    · refine .inr ?_
      rcases Nat.lt_or_ge N h with hlt | hge
      · exfalso
        have e1 : h * 2 ^ k * d = h * (d * 2 ^ k) := by rw [Nat.mul_assoc, Nat.mul_comm (2 ^ k)]
        have e2 : (N + 1) * (d * 2 ^ k) ≤ h * (d * 2 ^ k) := Nat.mul_le_mul_right _ hlt
        rw [Nat.succ_mul] at e2
        have e3 : 2 * N * (d * 2 ^ k) = 2 * (N * (d * 2 ^ k)) := Nat.mul_assoc _ _ _
        omega
      · exact hge
  have key : ∀ D, D = d * 2 ^ k → 2 * N * D = 2 * (N * D) := fun D _ => Nat.mul_assoc _ _ _
  constructor
  · rcases Nat.eq_zero_or_pos (k * h + N) with h0 | h0
    · exact .inl h0
    · refine .inr ?_
      -- mid (r - 1) ≤ (2 N - 1) * 2 ^ k , with equality but at N = h
      have hm : (mid h (k * h + N - 1) = (2 * N - 1) * 2 ^ k ∧ 1 ≤ N) ∨ (mid h (k * h + N - 1) < 2 * N * 2 ^ k ∧ 0 < k ∧ N = h) := by
        rcases Nat.eq_zero_or_pos k with rfl | hk
        · left
          simp only [Nat.zero_mul, Nat.zero_add, Nat.pow_zero, Nat.mul_one] at *
          refine ⟨?_, by omega⟩
          unfold mid
          rw [Nat.sub_add_cancel (by omega)]
          rcases Nat.lt_or_ge N h with h1 | h1
          · rw [val_lt h1, val_lt (by omega)]; omega
          · rcases Nat.lt_or_ge N (2 * h) with h3 | h3
            · have e1 : N = (0 + 1) * h + (N - h) := by omega
              have e2 : val h N = N := by
                have := @val_at h 0 (N - h) (by omega)
                rw [← e1] at this
                rw [this]; omega
              rw [e2]
              rcases Nat.lt_or_ge (N - 1) h with h4 | h4
              · rw [val_lt h4]; omega
              · have e3 : N - 1 = (0 + 1) * h + (N - 1 - h) := by omega
                have := @val_at h 0 (N - 1 - h) (by omega)
                rw [← e3] at this
                rw [this]; omega
            · obtain rfl : N = 2 * h := by omega
              have e1 : 2 * h = (1 + 1) * h + 0 := by omega
              have a1 : val h (2 * h) = 2 * h := by rw [e1, val_at (by omega)]; omega
              have e3 : 2 * h - 1 = (0 + 1) * h + (h - 1) := by omega
              have a2 : val h (2 * h - 1) = 2 * h - 1 := by rw [e3, val_at (by omega)]; omega
              rw [a1, a2]; omega
        · obtain ⟨k, rfl⟩ : ∃ m, k = m + 1 := ⟨k - 1, by omega⟩
          have hN' : h ≤ N := by omega
          rcases Nat.lt_or_ge h N with h1 | h1
          · left
            refine ⟨?_, by omega⟩
            -- r - 1 = (k+2) h + (N - 1 - h)
            have e1 : (k + 1) * h + N - 1 = (k + 1 + 1) * h + (N - 1 - h) := by rw [Nat.succ_mul (k + 1)]; omega
            unfold mid
            rw [e1, val_succ_at (by omega), val_at (by omega)]
            have e2 : h + (N - 1 - h) = N - 1 := by omega
            rw [e2, ← Nat.add_assoc, ← Nat.add_mul, ← Nat.succ_mul]
            congr 1
            omega
          · right
            obtain rfl : h = N := by omega
            refine ⟨?_, by omega, rfl⟩
            have e1 : (k + 1) * h + h - 1 = (k + 1) * h + (h - 1) := by omega
            unfold mid
            rw [e1, val_succ_at (by omega), val_at (by omega)]
            have e2 : h + (h - 1) = 2 * h - 1 := by omega
            rw [e2, ← Nat.add_assoc, ← Nat.add_mul, ← Nat.succ_mul, Nat.pow_succ]
            have e3 : 2 * h * (2 ^ k * 2) = (4 * h) * 2 ^ k := by
              rw [Nat.mul_comm (2 ^ k) 2, ← Nat.mul_assoc]; congr 1; omega
            rw [e3]
            exact Nat.mul_lt_mul_of_pos_right (by omega) (Nat.two_pow_pos k)
      rcases hm with ⟨hm, h1⟩ | ⟨hm, hk, hNe⟩
      · rw [hm, par]
        have e : (2 * N - 1) * 2 ^ k * d = 2 * N * (d * 2 ^ k) - d * 2 ^ k := by
          rw [Nat.mul_assoc, Nat.mul_comm (2 ^ k), Nat.sub_mul, Nat.one_mul]
        have : d * 2 ^ k ≤ 2 * N * (d * 2 ^ k) := Nat.le_mul_of_pos_left _ (by omega)
        omega
      · left
        subst hNe
        have h1 : N * 2 ^ k * d ≤ n := by omega
        have e1 : mid N (k * N + N - 1) * d < 2 * N * 2 ^ k * d := Nat.mul_lt_mul_of_pos_right hm hd
        have e2 : 2 * N * 2 ^ k * d = 2 * (N * 2 ^ k * d) := by rw [Nat.mul_assoc 2 N, Nat.mul_assoc 2]
        omega
  · -- mid r = (2 N + 1) * 2 ^ k if N < 2 h; more if N = 2 h
    rw [par]
    have hm : mid h (k * h + N) = (2 * N + 1) * 2 ^ k ∨ (N = 2 * h ∧ (2 * N + 1) * 2 ^ k < mid h (k * h + N)) := by
      rcases Nat.lt_or_ge N h with h1 | h1
      · have hk0 : k = 0 := by omega
        subst hk0
        left
        unfold mid
        rw [Nat.zero_mul, Nat.zero_add, val_succ_lt h1, val_lt h1, Nat.pow_zero]; omega
      · rcases Nat.lt_or_ge N (2 * h) with h3 | h3
        · left
          have e1 : k * h + N = (k + 1) * h + (N - h) := by rw [Nat.succ_mul]; omega
          unfold mid
          rw [e1, val_succ_at (by omega), val_at (by omega)]
          have e2 : h + (N - h) = N := by omega
          rw [e2, ← Nat.add_assoc, ← Nat.add_mul, ← Nat.succ_mul]
          congr 1; omega
        · right
          obtain rfl : N = 2 * h := by omega
          refine ⟨rfl, ?_⟩
          have e1 : k * h + 2 * h = (k + 1 + 1) * h + 0 := by rw [Nat.succ_mul (k + 1), Nat.succ_mul k]; omega
          unfold mid
          rw [e1, val_succ_at (by omega : 0 < h), val_at (by omega), Nat.pow_succ, Nat.add_zero h]
          have e3 : h * (2 ^ k * 2) = (2 * h) * 2 ^ k := by rw [Nat.mul_comm (2 ^ k) 2, ← Nat.mul_assoc]; congr 1; omega
          have e4 : (2 * (2 * h) + 1) * 2 ^ k = 2 * h * 2 ^ k + 2 * h * 2 ^ k + 2 ^ k := by rw [Nat.succ_mul, Nat.mul_assoc 2 (2 * h), Nat.two_mul (2 * h * 2 ^ k)]
          rw [e3, e4]; omega
    have e5 : ∀ M, M * 2 ^ k * d = M * (d * 2 ^ k) := fun M => by rw [Nat.mul_assoc, Nat.mul_comm (2 ^ k)]
    rcases hm with hm | ⟨_, hm⟩
    · rw [hm, e5, Nat.add_mul, Nat.one_mul]
      omega
    · left
      have := Nat.mul_lt_mul_of_pos_right hm hd
      rw [e5, Nat.add_mul, Nat.one_mul] at this
      omega

end Near

namespace Farey

theorem apart {a b c d x K : Nat} (h1 : c * b = a * d + 1) (hx : x < b + d) : K * b ≤ a * x ∨ c * x ≤ K * d := by
  rcases Nat.lt_or_ge (a * x) (K * b) with h2 | h2
  · rcases Nat.lt_or_ge (K * d) (c * x) with h3 | h3
    · exfalso
      have e1 : (a * x + 1) * d ≤ K * b * d := Nat.mul_le_mul_right d h2
      have e2 : (K * d + 1) * b ≤ c * x * b := Nat.mul_le_mul_right b h3
      have e3 : c * x * b = a * d * x + x := by
        rw [Nat.mul_right_comm, h1, Nat.add_mul, Nat.one_mul]
      have e4 : (a * x + 1) * d = a * d * x + d := by rw [Nat.add_mul, Nat.one_mul, Nat.mul_right_comm]
      have e5 : (K * d + 1) * b = K * b * d + b := by rw [Nat.add_mul, Nat.one_mul, Nat.mul_right_comm]
      omega
    · exact .inr h3
  · exact .inl h2

/-- what a certificate tells: every x from X0 to X, by A / B, lies E / B or more from every whole number. -/
def chk (A B a b c d X X0 E : Nat) : Bool :=
  decide (0 < b) && decide (0 < d) && decide (0 < X0) && (c * b == a * d + 1) && decide (X < b + d) && decide (E * b + X0 * (a * B) ≤ X0 * (A * b)) && decide (E * d + X0 * (A * d) ≤ X0 * (c * B))

theorem stretch {u v e X0 y : Nat} (h0 : 0 < X0) (h : e + X0 * u ≤ X0 * v) : e + (X0 + y) * u ≤ (X0 + y) * v := by
  have huv : u ≤ v := Nat.le_of_mul_le_mul_left (Nat.le_trans (Nat.le_add_left _ _) h) h0
  have := Nat.mul_le_mul_left y huv
  rw [Nat.add_mul, Nat.add_mul]; omega

theorem far {A B a b c d X X0 E : Nat} (h : chk A B a b c d X X0 E = true) {x : Nat} (h0 : X0 ≤ x) (hX : x ≤ X) (K : Nat) :
    K * B + E ≤ x * A ∨ x * A + E ≤ K * B := by
  simp only [chk, Bool.and_eq_true, decide_eq_true_eq, beq_iff_eq] at h
  obtain ⟨⟨⟨⟨⟨⟨hb, hd⟩, hz⟩, h1⟩, h2⟩, h3⟩, h4⟩ := h
  obtain ⟨y, rfl⟩ : ∃ y, x = X0 + y := ⟨x - X0, by omega⟩
  have s3 := stretch (y := y) hz h3
  have s4 := stretch (y := y) hz h4
  rcases apart (K := K) (x := X0 + y) h1 (by omega) with h5 | h5
  · left
    have h6 := Nat.mul_le_mul_right B h5
    refine Nat.le_of_mul_le_mul_right (c := b) ?_ hb
    have e1 : (K * B + E) * b = K * b * B + E * b := by rw [Nat.add_mul, Nat.mul_right_comm]
    have e2 : a * (X0 + y) * B = (X0 + y) * (a * B) := by rw [Nat.mul_right_comm, Nat.mul_comm]
    have e3 : (X0 + y) * A * b = (X0 + y) * (A * b) := Nat.mul_assoc _ _ _
    omega
  · right
    have h6 := Nat.mul_le_mul_right B h5
    refine Nat.le_of_mul_le_mul_right (c := d) ?_ hd
    have e1 : ((X0 + y) * A + E) * d = (X0 + y) * (A * d) + E * d := by rw [Nat.add_mul, Nat.mul_assoc]
    have e2 : c * (X0 + y) * B = (X0 + y) * (c * B) := by rw [Nat.mul_right_comm, Nat.mul_comm]
    have e3 : K * B * d = K * d * B := Nat.mul_right_comm _ _ _
    omega

/-- neighbours of A / B with denominators up to X: steps of the two ends by turns, each as far as it goes. -/
def find (A B X : Nat) : Nat → Nat → Nat → Nat → Nat → Nat × Nat × Nat × Nat
  | 0, a, b, c, d => (a, b, c, d)
  | k + 1, a, b, c, d =>
    if X < b + d then (a, b, c, d) else
    -- the lower end toward the upper one
    let n := A * b - a * B
    let m := c * B - A * d
    let i := min (n / m) ((X - b) / d)
    let a := a + i * c
    let b := b + i * d
    if X < b + d then (a, b, c, d) else
    let n := A * b - a * B
    let j := if n = 0 then (X - d) / b else min ((m - 1) / n) ((X - d) / b)
    find A B X k a b (c + j * a) (d + j * b)

def found (A B X X0 E : Nat) : Bool :=
  let f := A / B
  let (a, b, c, d) := find A B X 400 f 1 (f + 1) 1
  chk A B a b c d X X0 E

theorem far_of_found {A B X X0 E : Nat} (h : found A B X X0 E = true) {x : Nat} (h0 : X0 ≤ x) (hX : x ≤ X) (K : Nat) :
    K * B + E ≤ x * A ∨ x * A + E ≤ K * B := by
  unfold found at h
  exact far h h0 hX K

/-- floor of the binary logarithm of ten to the p, as the code reckons it. -/
def lp (p : Int) : Int := (p * 108853) / 32768

/-- ten to the p by two to the 127 - lp p, as a ratio; lies from 2^127 to 2^128. -/
def num (p : Int) : Nat := 10 ^ p.toNat * 2 ^ (127 - lp p).toNat
def den (p : Int) : Nat := 10 ^ (-p).toNat * 2 ^ (lp p - 127).toNat


/-- the separation by a certificate, or because all is whole numbers of a great unit. -/
def unit (p : Int) : Nat := 2 ^ (min (127 - lp p).toNat (134 + (-p).toNat) + p.toNat)
def okExact (p : Int) : Bool := decide (num p % unit p = 0) && decide ((den p * 2 ^ 134) % unit p = 0) && decide (2 ^ 65 * den p ≤ unit p)
def okParse (p : Int) : Bool := okExact p || found (num p) (den p * 2 ^ 137) (2 ^ 64) (2 ^ 63) (2 ^ 65 * den p)
def okPrint (p : Int) : Bool := okExact p || found (num p * 512) (den p * 2 ^ 134) (2 ^ 55) (2 ^ 53) (2 ^ 65 * den p)
theorem parse_all : ((List.range 671).all fun i => okParse ((i : Int) - 345)) = true := by decide +kernel
theorem print_all : ((List.range 671).all fun i => okPrint ((i : Int) - 345)) = true := by decide +kernel

theorem parse_at {p : Int} (h0 : -345 ≤ p) (h1 : p ≤ 325) : okParse p = true := by
  have h := List.all_eq_true.1 parse_all (p + 345).toNat (List.mem_range.2 (by omega))
  rwa [show (((p + 345).toNat : Nat) : Int) - 345 = p from by omega] at h
theorem print_at {p : Int} (h0 : -345 ≤ p) (h1 : p ≤ 325) : okPrint p = true := by
  have h := List.all_eq_true.1 print_all (p + 345).toNat (List.mem_range.2 (by omega))
  rwa [show (((p + 345).toNat : Nat) : Int) - 345 = p from by omega] at h

theorem den_pos (p : Int) : 0 < den p := Nat.mul_pos (Nat.pow_pos (by omega)) (Nat.two_pow_pos _)

theorem of_unit {a b g E : Nat} (ha : a % g = 0) (hb : b % g = 0) (hE : E ≤ g) : a = b ∨ b + E ≤ a ∨ a + E ≤ b := by
  obtain ⟨u, rfl⟩ := Nat.dvd_of_mod_eq_zero ha
  obtain ⟨v, rfl⟩ := Nat.dvd_of_mod_eq_zero hb
  rcases Nat.lt_trichotomy u v with h | h | h
  · right; right
    have := Nat.mul_le_mul_left g (show u + 1 ≤ v by omega)
    rw [Nat.mul_add] at this; omega
  · left; rw [h]
  · right; left
    have := Nat.mul_le_mul_left g (show v + 1 ≤ u by omega)
    rw [Nat.mul_add] at this; omega

/-- a scale of two to the s, cut. -/
theorem scale_cut {s t u : Nat} (h : t ≤ s) (hu : u = 2 ^ (t + 129)) (d K : Nat) : K * 2 ^ (s - t) * (d * u) = K * (d * (2 ^ s * 680564733841876926926749214863536422912)) := by
  have e1 : (2:Nat) ^ s = 2 ^ (s - t) * 2 ^ t := by rw [← Nat.pow_add]; congr 1; omega
  have e2 : (680564733841876926926749214863536422912 : Nat) = 2 ^ 129 := rfl
  rw [e1, e2, hu, Nat.pow_add]
  generalize (2:Nat) ^ 129 = a; generalize (2:Nat) ^ (s - t) = b; generalize (2:Nat) ^ t = c
  grind

theorem of_exact {p : Int} (h : okExact p = true) {x s K : Nat} (hs : 5 ≤ s) :
    x * num p = K * (den p * (2 ^ s * 680564733841876926926749214863536422912)) ∨ K * (den p * (2 ^ s * 680564733841876926926749214863536422912)) + 36893488147419103232 * den p ≤ x * num p ∨
      x * num p + 36893488147419103232 * den p ≤ K * (den p * (2 ^ s * 680564733841876926926749214863536422912)) := by
  simp only [okExact, Bool.and_eq_true, decide_eq_true_eq] at h
  obtain ⟨⟨h1, h2⟩, h3⟩ := h
  refine of_unit (g := unit p) ?_ ?_ h3
  · rw [Nat.mul_mod, h1, Nat.mul_zero, Nat.zero_mod]
  · rw [← scale_cut hs rfl, Nat.mul_mod, h2, Nat.mul_zero, Nat.zero_mod]

theorem sep_parse {p : Int} (h0 : -345 ≤ p) (h1 : p ≤ 325) {x s : Nat} (hs : 8 ≤ s) (hx0 : 9223372036854775808 ≤ x) (hx1 : x < 18446744073709551616) (K : Nat) :
    x * num p = K * (den p * (2 ^ s * 680564733841876926926749214863536422912)) ∨ K * (den p * (2 ^ s * 680564733841876926926749214863536422912)) + 36893488147419103232 * den p ≤ x * num p ∨
      x * num p + 36893488147419103232 * den p ≤ K * (den p * (2 ^ s * 680564733841876926926749214863536422912)) := by
  have h := parse_at h0 h1
  simp only [okParse, Bool.or_eq_true] at h
  rcases h with h | h
  · exact of_exact h (by omega)
  · have := far_of_found h (x := x) hx0 (Nat.le_of_lt hx1) (K * 2 ^ (s - 8))
    rw [scale_cut hs rfl] at this
    exact .inr this

theorem sep_print {p : Int} (h0 : -345 ≤ p) (h1 : p ≤ 325) {y s : Nat} (hs : 5 ≤ s) (hy0 : 9007199254740992 ≤ y) (hy1 : y ≤ 36028797018963968) (K : Nat) :
    512 * y * num p = K * (den p * (2 ^ s * 680564733841876926926749214863536422912)) ∨ K * (den p * (2 ^ s * 680564733841876926926749214863536422912)) + 36893488147419103232 * den p ≤ 512 * y * num p ∨
      512 * y * num p + 36893488147419103232 * den p ≤ K * (den p * (2 ^ s * 680564733841876926926749214863536422912)) := by
  have h := print_at h0 h1
  simp only [okPrint, Bool.or_eq_true] at h
  rcases h with h | h
  · exact of_exact h (by omega)
  · have := far_of_found h (x := y) hy0 hy1 (K * 2 ^ (s - 5))
    have e2 : 512 * y * num p = y * (num p * 512) := by rw [Nat.mul_comm 512 y, Nat.mul_assoc, Nat.mul_comm 512]
    rw [scale_cut hs rfl, ← e2] at this
    exact .inr this
end Farey

namespace Uscale

def uscaleF (x hi lo s : Nat) : Nat :=
  if x * hi / 18446744073709551616 % 2 ^ s = 0 then
    ((x * hi / 18446744073709551616 - (decide (x * hi % 18446744073709551616 < x * lo / 18446744073709551616)).toNat) / 2 ^ s) |||
      (decide (1 < (x * hi % 18446744073709551616 + 18446744073709551616 - x * lo / 18446744073709551616) % 18446744073709551616)).toNat
  else (x * hi / 18446744073709551616 / 2 ^ s) ||| 1

theorem or_one (a : Nat) : a ||| 1 = 2 * (a / 2) + 1 := by
  apply Nat.eq_of_testBit_eq
  intro i
  rw [Nat.testBit_or]
  cases i with
  | zero => simp
  | succ i =>
    have e1 : Nat.testBit 1 (i + 1) = false := by
      rw [Nat.testBit_succ]; simp
    rw [e1, Bool.or_false, Nat.testBit_succ, Nat.testBit_succ]
    congr 1; omega
theorem or_zero (a : Nat) : a ||| 0 = a := by simp

/-- what stands strictly between two neighbouring multiples. -/
theorem between {X W a : Nat} (h0 : a * W < X) (h1 : X < (a + 1) * W) : X / W = a ∧ X % W ≠ 0 := by
  have hW : 0 < W := by
    rcases Nat.eq_zero_or_pos W with rfl | h
    · omega
    · exact h
  have e : X / W = a := by
    apply Nat.le_antisymm
    · exact Nat.lt_succ_iff.1 ((Nat.div_lt_iff_lt_mul hW).2 h1)
    · exact (Nat.le_div_iff_mul_le hW).2 (by omega)
  refine ⟨e, fun h => ?_⟩
  have := Nat.div_add_mod X W
  rw [e, h, Nat.mul_comm] at this
  omega


theorem cells {T D V S q G : Nat} (h0 : G * V * D < T) (h1 : T < (G + 1) * V * D) (hq0 : 2 * S * q ≤ G) (hq1 : G < 2 * S * q + 2 * S) :
    T / (D * (S * (2 * V))) = q ∧ T % (D * (S * (2 * V))) ≠ 0 := by
  apply between
  · have e : q * (D * (S * (2 * V))) = 2 * S * q * V * D := by grind
    rw [e]
    exact Nat.lt_of_le_of_lt (Nat.mul_le_mul_right D (Nat.mul_le_mul_right V hq0)) h0
  · have e : (q + 1) * (D * (S * (2 * V))) = (2 * S * q + 2 * S) * V * D := by grind
    rw [e]
    exact Nat.lt_of_lt_of_le h1 (Nat.mul_le_mul_right D (Nat.mul_le_mul_right V hq1))

theorem div_cells {G S : Nat} (hS : 0 < S) : 2 * S * (G / S / 2) ≤ G ∧ G < 2 * S * (G / S / 2) + 2 * S := by
  rw [Nat.div_div_eq_div_mul]
  have h1 := Nat.div_add_mod G (S * 2)
  have h2 := Nat.mod_lt G (show 0 < S * 2 by omega)
  have e : 2 * S * (G / (S * 2)) = S * 2 * (G / (S * 2)) := by rw [Nat.mul_comm 2 S]
  omega

theorem le_mul_of_eq {k x X D T : Nat} (h : k + x ≤ X) (h' : X * D < T + x * D) : k * D < T := by
  have := Nat.mul_le_mul_right D h
  rw [Nat.add_mul] at this
  omega

theorem uscaleF_spec {x hi lo s N D pm : Nat} (hx : x < 18446744073709551616) (hx0 : 4 ≤ x) (hhi0 : 9223372036854775808 ≤ hi) (hlo : lo < 18446744073709551616)
    (hpm : pm + lo = hi * 18446744073709551616) (hD : 0 < D) (hp0 : N ≤ pm * D) (hp1 : pm * D < N + D)
    (hsep : ∀ K, x * N = K * (D * (2 ^ s * 680564733841876926926749214863536422912)) ∨ K * (D * (2 ^ s * 680564733841876926926749214863536422912)) + 36893488147419103232 * D ≤ x * N ∨ x * N + 36893488147419103232 * D ≤ K * (D * (2 ^ s * 680564733841876926926749214863536422912))) :
    uscaleF x hi lo s = 2 * (x * N / (D * (2 ^ s * 680564733841876926926749214863536422912))) + (if x * N % (D * (2 ^ s * 680564733841876926926749214863536422912)) = 0 then 0 else 1) := by
  unfold uscaleF
  have hT1 : x * N ≤ x * pm * D := by rw [Nat.mul_assoc]; exact Nat.mul_le_mul_left x hp0
  have hT0 : x * pm * D < x * N + x * D := by rw [Nat.mul_assoc, ← Nat.mul_add]; exact Nat.mul_lt_mul_of_pos_left hp1 (by omega)
  have hX : x * pm + x * lo = x * hi * 18446744073709551616 := by rw [← Nat.mul_add, hpm, Nat.mul_assoc]
  have hLb : x * lo ≤ 18446744073709551615 * 18446744073709551615 := Nat.mul_le_mul (by omega) (by omega)
  have hHb : 4 * 9223372036854775808 ≤ x * hi := Nat.mul_le_mul hx0 hhi0
  clear hpm hp0 hp1
  generalize x * N = T at *
  generalize x * hi = P at *
  generalize x * lo = Q at *
  generalize x * pm = X at *
  have hPd := Nat.div_add_mod P 18446744073709551616
  have hPm := Nat.mod_lt P (show 0 < 18446744073709551616 by omega)
  have hLd := Nat.div_add_mod Q 18446744073709551616
  have hLm := Nat.mod_lt Q (show 0 < 18446744073709551616 by omega)
  have hs := Nat.two_pow_pos s
  generalize P / 18446744073709551616 = H at *
  generalize P % 18446744073709551616 = M at *
  generalize Q / 18446744073709551616 = L at *
  generalize Q % 18446744073709551616 = R at *
  generalize (2:Nat) ^ s = S at *
  have hH0 : 2 ≤ H := by omega
  have hLle : L ≤ 18446744073709551614 := by omega
  have hV2 : 680564733841876926926749214863536422912 = 2 * 340282366920938463463374607431768211456 := by omega
  rw [hV2] at hsep ⊢
  -- by cases, each to one of two ends
  by_cases hz : H % S = 0
  · rw [if_pos hz]
    by_cases hb : 1 < (M + 18446744073709551616 - L) % 18446744073709551616
    · have e1 : (decide (1 < (M + 18446744073709551616 - L) % 18446744073709551616)).toNat = 1 := by rw [decide_eq_true hb]; rfl
      rw [e1, or_one]
      obtain ⟨G, hG⟩ : ∃ G, G = H - (decide (M < L)).toNat := ⟨_, rfl⟩
      rw [← hG]
      have hk : G * 340282366920938463463374607431768211456 + x ≤ X ∧ X < (G + 1) * 340282366920938463463374607431768211456 := by
        by_cases hml : M < L
        · rw [decide_eq_true hml] at hG; simp at hG; omega
        · rw [decide_eq_false hml] at hG; simp at hG; omega
      have b0 := le_mul_of_eq hk.1 hT0
      have b1 := Nat.lt_of_le_of_lt hT1 (Nat.mul_lt_mul_of_pos_right hk.2 hD)
      clear hk hb e1 hG
      generalize 340282366920938463463374607431768211456 = V at *
      obtain ⟨d0, d1⟩ := div_cells (G := G) hs
      obtain ⟨f1, f2⟩ := cells b0 b1 d0 d1
      rw [f1, if_neg f2]
    · have hLM : ¬ M < L := by omega
      have e1 : (decide (1 < (M + 18446744073709551616 - L) % 18446744073709551616)).toNat = 0 := by rw [decide_eq_false hb]; rfl
      have e2 : (decide (M < L)).toNat = 0 := by rw [decide_eq_false hLM]; rfl
      rw [e1, e2, or_zero, Nat.sub_zero]
      have hML : M - L ≤ 1 := by omega
      have hk : H * 340282366920938463463374607431768211456 + x ≤ X + 36893488147419103232 ∧ X < H * 340282366920938463463374607431768211456 + 36893488147419103232 := by omega
      have b0 : H * 340282366920938463463374607431768211456 * D < T + 36893488147419103232 * D := by
        have := Nat.mul_le_mul_right D hk.1
        rw [Nat.add_mul, Nat.add_mul] at this
        generalize H * 340282366920938463463374607431768211456 * D = A at *
        generalize 36893488147419103232 * D = E at *
        omega
      have b1 : T < H * 340282366920938463463374607431768211456 * D + 36893488147419103232 * D := by
        rw [← Nat.add_mul]
        exact Nat.lt_of_le_of_lt hT1 (Nat.mul_lt_mul_of_pos_right hk.2 hD)
      have hbig : 36893488147419103232 * D < 340282366920938463463374607431768211456 * D := Nat.mul_lt_mul_of_pos_right (by omega) hD
      clear hk hb e1 hX hHb hLb hPd hLd hH0 hLle hPm hLm hML hLM e2 hV2 hT1 hT0
      generalize 340282366920938463463374607431768211456 = V at *
      generalize 36893488147419103232 * D = E at *
      obtain ⟨a, rfl⟩ : ∃ a, H = S * a := ⟨H / S, by have := Nat.div_add_mod H S; omega⟩
      rw [Nat.mul_div_cancel_left _ hs]
      rcases Nat.mod_two_eq_zero_or_one a with ha | ha
      · obtain ⟨q, rfl⟩ : ∃ q, a = 2 * q := ⟨a / 2, by omega⟩
        have e : S * (2 * q) * V * D = q * (D * (S * (2 * V))) := by grind
        rw [e] at b0 b1
        have h3 := hsep q
        generalize hW : D * (S * (2 * V)) = W at *
        have hWp : 0 < W := by
          rcases Nat.eq_zero_or_pos W with h | h
          · exfalso
            rcases Nat.mul_eq_zero.1 (hW.trans h) with h | h
            · omega
            · rcases Nat.mul_eq_zero.1 h with h | h
              · omega
              · have : V = 0 := by omega
                subst this; omega
          · exact h
        have h4 : T = q * W := by omega
        rw [h4, Nat.mul_div_cancel _ hWp, Nat.mul_mod_left, if_pos rfl]; rfl
      · obtain ⟨q, rfl⟩ : ∃ q, a = 2 * q + 1 := ⟨a / 2, by omega⟩
        have e : S * (2 * q + 1) * V * D = q * (D * (S * (2 * V))) + S * (V * D) := by grind
        have e' : (q + 1) * (D * (S * (2 * V))) = q * (D * (S * (2 * V))) + 2 * (S * (V * D)) := by grind
        have hSD : V * D ≤ S * (V * D) := Nat.le_mul_of_pos_left _ hs
        obtain ⟨f1, f2⟩ := between (X := T) (a := q) (W := D * (S * (2 * V))) (by omega) (by omega)
        rw [f1, if_neg f2]
  · rw [if_neg hz, or_one]
    have hk : (H - 1) * 340282366920938463463374607431768211456 + x ≤ X ∧ X < (H + 1) * 340282366920938463463374607431768211456 := by omega
    have b0 := le_mul_of_eq hk.1 hT0
    have b1 := Nat.lt_of_le_of_lt hT1 (Nat.mul_lt_mul_of_pos_right hk.2 hD)
    clear hk hX hHb hLb hPd hLd hLle hPm hLm hV2 hT1 hT0
    generalize 340282366920938463463374607431768211456 = V at *
    have hd := Nat.div_add_mod H S
    have hm := Nat.mod_lt H hs
    -- strictly inside the cell of H
    have c0 : S * (H / S) * V * D < T := Nat.lt_of_le_of_lt (Nat.mul_le_mul_right D (Nat.mul_le_mul_right V (by omega))) b0
    have c1 : T < (S * (H / S) + S) * V * D := Nat.lt_of_lt_of_le b1 (Nat.mul_le_mul_right D (Nat.mul_le_mul_right V (by omega)))
    generalize H / S = a at *
    have key : T / (D * (S * (2 * V))) = a / 2 ∧ T % (D * (S * (2 * V))) ≠ 0 := by
      apply between
      · refine Nat.lt_of_le_of_lt ?_ c0
        have e : a / 2 * (D * (S * (2 * V))) = S * (2 * (a / 2)) * V * D := by generalize a / 2 = q; grind
        rw [e]
        exact Nat.mul_le_mul_right D (Nat.mul_le_mul_right V (Nat.mul_le_mul_left S (by omega)))
      · refine Nat.lt_of_lt_of_le c1 ?_
        have e : (a / 2 + 1) * (D * (S * (2 * V))) = S * (2 * (a / 2) + 2) * V * D := by generalize a / 2 = q; grind
        rw [e, ← Nat.mul_succ]
        exact Nat.mul_le_mul_right D (Nat.mul_le_mul_right V (Nat.mul_le_mul_left S (by omega)))
    obtain ⟨f1, f2⟩ := key
    rw [f1, if_neg f2]
end Uscale

namespace Pow10
open Farey
/-- a row of the table: its two words; the whole they stand for is ten to the p, scaled, rounded up. -/
def rowOk (i : Nat) : Bool :=
  match Go.Pinned.pow10Rows[i]? with
  | some (hi, lo) =>
    let p : Int := (i : Int) - 348
    let pm := hi * 18446744073709551616 - lo
    decide (9223372036854775808 ≤ hi) && decide (hi < 18446744073709551616) && decide (lo < 18446744073709551616) && decide (num p ≤ pm * den p) && decide (pm * den p < num p + den p)
  | none => false
theorem rows_all : ((List.range 696).all fun i => rowOk i) = true := by decide +kernel
def hiOf (i : Nat) : Nat := (Go.Pinned.pow10Rows[i]?.getD (0, 0)).1
def loOf (i : Nat) : Nat := (Go.Pinned.pow10Rows[i]?.getD (0, 0)).2
theorem row {i : Nat} (hi : i < 696) : 9223372036854775808 ≤ hiOf i ∧ hiOf i < 18446744073709551616 ∧ loOf i < 18446744073709551616 ∧
    num ((i : Int) - 348) ≤ (hiOf i * 18446744073709551616 - loOf i) * den ((i : Int) - 348) ∧ (hiOf i * 18446744073709551616 - loOf i) * den ((i : Int) - 348) < num ((i : Int) - 348) + den ((i : Int) - 348) := by
  have h := List.all_eq_true.1 rows_all i (List.mem_range.2 hi)
  unfold rowOk at h
  unfold hiOf loOf
  generalize Go.Pinned.pow10Rows[i]? = r at h ⊢
  cases r with
  | none => cases h
  | some r =>
    obtain ⟨a, b⟩ := r
    simp only [Bool.and_eq_true, decide_eq_true_eq] at h
    obtain ⟨⟨⟨⟨h1, h2⟩, h3⟩, h4⟩, h5⟩ := h
    exact ⟨h1, h2, h3, h4, h5⟩
end Pow10

namespace Scaled
open Farey Pow10 Uscale
/-- twice the scaled number, cut, and whether something is left: x by ten to the p by two to the e, in units of two to the -2. -/
def exactU (x : Nat) (p : Int) (s : Nat) : Nat :=
  2 * (x * num p / (den p * (2 ^ s * 680564733841876926926749214863536422912))) + (if x * num p % (den p * (2 ^ s * 680564733841876926926749214863536422912)) = 0 then 0 else 1)
theorem row_at {p : Int} (h0 : -348 ≤ p) (h1 : p ≤ 347) : 9223372036854775808 ≤ hiOf (p + 348).toNat ∧ hiOf (p + 348).toNat < 18446744073709551616 ∧ loOf (p + 348).toNat < 18446744073709551616 ∧
    num p ≤ (hiOf (p + 348).toNat * 18446744073709551616 - loOf (p + 348).toNat) * den p ∧ (hiOf (p + 348).toNat * 18446744073709551616 - loOf (p + 348).toNat) * den p < num p + den p := by
  have := row (i := (p + 348).toNat) (by omega)
  rwa [show (((p + 348).toNat : Nat) : Int) - 348 = p from by omega] at this
theorem parse {p : Int} (h0 : -345 ≤ p) (h1 : p ≤ 325) {x s : Nat} (hs : 8 ≤ s) (hx0 : 9223372036854775808 ≤ x) (hx1 : x < 18446744073709551616) :
    uscaleF x (hiOf (p + 348).toNat) (loOf (p + 348).toNat) s = exactU x p s := by
  obtain ⟨a, b, c, d, e⟩ := row_at (p := p) (by omega) (by omega)
  generalize hiOf (p + 348).toNat = hi at *
  generalize loOf (p + 348).toNat = lo at *
  exact uscaleF_spec hx1 (by omega) a c (pm := hi * 18446744073709551616 - lo) (by omega) (den_pos p) d e (sep_parse h0 h1 hs hx0 hx1)
theorem print {p : Int} (h0 : -345 ≤ p) (h1 : p ≤ 325) {x s : Nat} (hs : 5 ≤ s) (h512 : x % 512 = 0) (hx0 : 4611686018427387904 ≤ x) (hx1 : x < 18446744073709551616) :
    uscaleF x (hiOf (p + 348).toNat) (loOf (p + 348).toNat) s = exactU x p s := by
  obtain ⟨a, b, c, d, e⟩ := row_at (p := p) (by omega) (by omega)
  obtain ⟨y, rfl⟩ : ∃ y, x = 512 * y := ⟨x / 512, by omega⟩
  generalize hiOf (p + 348).toNat = hi at *
  generalize loOf (p + 348).toNat = lo at *
  exact uscaleF_spec hx1 (by omega) a c (pm := hi * 18446744073709551616 - lo) (by omega) (den_pos p) d e (sep_print h0 h1 hs (by omega) (by omega))
end Scaled
end Go.Proofs.YtdfodfflkmcgpaaGreatDoor
