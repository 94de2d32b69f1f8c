/- What the form's floating operations give, as nearest rungs: the rounding of a whole number with a place, products, quotients. Of whole numbers alone. -/
import Derived.Test.YtdfodfflkmcgpaaGreatDoorZA1
import Ieee.Arith
namespace Go.Proofs.YtdfodfflkmcgpaaGreatDoor
open Ieee
namespace Near
theorem Even.same {n d m e N : Nat} (hd : 0 < d) (he : 0 < e) (h : Even n d N) (heq : n * e = m * d) : Even m e N := by
  have hb : ∀ a b : Nat, a * d < b * d → a < b := fun a b h => Nat.lt_of_mul_lt_mul_right h
  have hc : ∀ a b : Nat, a * d = b * d → a = b := fun a b h => Nat.eq_of_mul_eq_mul_right hd h
  have e1 : 2 * N * e * d = 2 * N * d * e := by grind
  have e2 : (2 * m + e) * d = (2 * n + d) * e := by grind
  have e3 : 2 * m * d = 2 * n * e := by grind
  have e4 : (2 * N * e + e) * d = (2 * N * d + d) * e := by grind
  obtain ⟨h1, h2⟩ := h
  refine ⟨?_, ?_⟩
  · rcases h1 with h1 | ⟨h1, hp⟩
    · left
      apply hb
      rw [e1, e2]
      exact Nat.mul_lt_mul_of_pos_right h1 he
    · right
      refine ⟨hc _ _ ?_, hp⟩
      rw [e1, e2, h1]
  · rcases h2 with h2 | ⟨h2, hp⟩
    · left
      apply hb
      rw [e3, e4]
      exact Nat.mul_lt_mul_of_pos_right h2 he
    · right
      refine ⟨hc _ _ ?_, hp⟩
      rw [e3, e4, h2]
theorem RN.of_same {h n d m e r : Nat} (hr : RN h n d r) (hd : 0 < d) (he : 0 < e) (heq : n * e = m * d) : RN h m e r := by
  have hb : ∀ a b : Nat, a * d < b * d → a < b := fun a b h => Nat.lt_of_mul_lt_mul_right h
  have hc : ∀ a b : Nat, a * d = b * d → a = b := fun a b h => Nat.eq_of_mul_eq_mul_right hd h
  have e1 : ∀ M, M * e * d = M * d * e := fun M => by grind
  have e2 : 2 * m * d = 2 * n * e := by grind
  obtain ⟨h1, h2⟩ := hr
  refine ⟨?_, ?_⟩
  · rcases h1 with h1 | h1 | ⟨h1, hp⟩
    · exact .inl h1
    · right; left
      apply hb
      rw [e1, e2]
      exact Nat.mul_lt_mul_of_pos_right h1 he
    · right; right
      refine ⟨hc _ _ ?_, hp⟩
      rw [e1, e2, h1]
  · rcases h2 with h2 | ⟨h2, hp⟩
    · left
      apply hb
      rw [e1, e2]
      exact Nat.mul_lt_mul_of_pos_right h2 he
    · right
      refine ⟨hc _ _ ?_, hp⟩
      rw [e1, e2, h2]
/-- a quotient and its rest, rounded. -/
theorem Even.of_rest {D q r : Nat} (hr : r < D) : Even (D * q + r) D (q + (decide (D < 2 * r) || (D == 2 * r && q % 2 == 1)).toNat) := by
  have e0 : 2 * q * D = 2 * (D * q) := by rw [Nat.mul_assoc, Nat.mul_comm q]
  have e1 : 2 * (q + 1) * D = 2 * (D * q) + 2 * D := by grind
  by_cases h1 : D < 2 * r
  · rw [decide_eq_true h1, Bool.true_or]
    show Even _ _ (q + 1)
    unfold Even
    rw [e1]
    generalize D * q = X at *
    omega
  · rw [decide_eq_false h1, Bool.false_or]
    by_cases h2 : D = 2 * r
    · have : (D == 2 * r) = true := by rw [beq_iff_eq]; exact h2
      rw [this, Bool.true_and]
      rcases Nat.mod_two_eq_zero_or_one q with h3 | h3
      · rw [h3]
        show Even _ _ (q + 0)
        unfold Even
        rw [Nat.add_zero, e0]
        generalize D * q = X at *
        omega
      · rw [h3]
        show Even _ _ (q + 1)
        unfold Even
        rw [e1]
        generalize D * q = X at *
        omega
    · have : (D == 2 * r) = false := by rw [beq_eq_false_iff_ne]; exact h2
      rw [this, Bool.false_and]
      show Even _ _ (q + 0)
      unfold Even
      rw [Nat.add_zero, e0]
      generalize D * q = X at *
      omega
theorem cut_even (neg : Bool) (n drop : Nat) : Even n (2 ^ drop) (Toward.cut .even neg n drop) := by
  unfold Toward.cut
  have hl : n < 2 ^ (n.log2 + 1) := Nat.lt_log2_self
  simp only [Nat.one_shiftLeft]
  rcases Nat.lt_or_ge (n.log2 + 2) drop with h | h
  · rw [Nat.min_eq_right (by omega)]
    have h2 : 2 * n < 2 ^ (n.log2 + 2) := by rw [Nat.pow_succ]; omega
    have h3 : 2 ^ (n.log2 + 2) ≤ 2 ^ drop := Nat.pow_le_pow_right (by omega) (by omega)
    rw [Nat.div_eq_of_lt (by omega), Nat.mod_eq_of_lt (by omega)]
    have f1 : decide (2 ^ (n.log2 + 2) < 2 * n) = false := decide_eq_false (by omega)
    have f2 : (2 ^ (n.log2 + 2) == 2 * n) = false := by rw [beq_eq_false_iff_ne]; omega
    rw [f1, f2]
    show Even n (2 ^ drop) 0
    unfold Even
    omega
  · rw [Nat.min_eq_left h]
    have := Even.of_rest (D := 2 ^ drop) (q := n / 2 ^ drop) (r := n % 2 ^ drop) (Nat.mod_lt _ (Nat.two_pow_pos _))
    rwa [Nat.div_add_mod] at this
/-- the place of the last digit that is kept, and the rung. -/
def lastOf (f : Format) (mag : Nat) (place : Int) : Int := max (place + mag.log2 - f.fractionBits) f.leastPlace
def rung (f : Format) (mag : Nat) (place : Int) : Nat :=
  (lastOf f mag place - f.leastPlace).toNat * f.binade + Toward.cut .even false (mag <<< (place - lastOf f mag place).toNat) (lastOf f mag place - place).toNat
theorem nearest_eq (f : Format) (neg : Bool) {mag : Nat} (place : Int) (h : mag ≠ 0) : f.nearest neg mag place = f.word neg (min (rung f mag place) f.infRung) := by
  unfold Format.nearest
  rw [if_neg h]
  rfl
theorem pow_le {a b : Nat} (h : a ≤ b) : (2:Nat) ^ a ≤ 2 ^ b := Nat.pow_le_pow_right (by omega) h
/-- what the form's rounding gives is the nearest rung. -/
theorem rung_RN (f : Format) (hf : 1 ≤ f.fractionBits) {mag : Nat} (place : Int) (h : mag ≠ 0) :
    RN f.binade (mag * 2 ^ (place - f.leastPlace).toNat) (2 ^ (f.leastPlace - place).toNat) (rung f mag place) := by
  obtain ⟨k, hk⟩ : ∃ k, k = (lastOf f mag place - f.leastPlace).toNat := ⟨_, rfl⟩
  have hlast : lastOf f mag place = max (place + mag.log2 - f.fractionBits) f.leastPlace := rfl
  unfold rung
  rw [← hk]
  generalize lastOf f mag place = last at *
  generalize hL : f.leastPlace = L at *
  obtain ⟨N, hN⟩ : ∃ N, N = Toward.cut .even false (mag <<< (place - last).toNat) (last - place).toNat := ⟨_, rfl⟩
  have hE := cut_even false (mag <<< (place - last).toNat) (last - place).toNat
  rw [← hN] at hE ⊢
  rw [Nat.shiftLeft_eq] at hE
  have hb : f.binade = 2 ^ f.fractionBits := rfl
  generalize f.binade = hh at *
  generalize f.fractionBits = fb at *
  have l1 : 2 ^ mag.log2 ≤ mag := Nat.log2_self_le h
  have l2 : mag < 2 ^ (mag.log2 + 1) := Nat.lt_log2_self
  refine RN.of_even (k := k) (N := N) ?_ ?_ (Nat.two_pow_pos _) ?_ ?_ ?_
  · rw [hb]; exact Nat.le_trans (by decide : 2 ≤ 2 ^ 1) (pow_le hf)
  · rw [hb]
    obtain ⟨x, rfl⟩ : ∃ x, fb = x + 1 := ⟨fb - 1, by omega⟩
    rw [Nat.pow_succ]; omega
  · refine hE.same (Nat.two_pow_pos _) (Nat.mul_pos (Nat.two_pow_pos _) (Nat.two_pow_pos _)) ?_
    rw [Nat.mul_assoc, Nat.mul_assoc, ← Nat.pow_add, ← Nat.pow_add, ← Nat.pow_add]
    congr 2
    omega
  · rcases Nat.eq_zero_or_pos k with h0 | h0
    · exact .inl h0
    · right
      rw [hb, ← Nat.pow_add, ← Nat.pow_add]
      refine Nat.le_trans (pow_le (b := mag.log2 + (place - L).toNat) (by omega)) ?_
      rw [Nat.pow_add]
      exact Nat.mul_le_mul_right _ l1
  · have hlt : mag * 2 ^ (place - last).toNat < 2 * hh * 2 ^ (last - place).toNat := by
      refine Nat.lt_of_lt_of_le (Nat.mul_lt_mul_of_pos_right l2 (Nat.two_pow_pos _)) ?_
      rw [hb, ← Nat.pow_add, Nat.mul_comm 2, ← Nat.pow_succ, ← Nat.pow_add]
      exact pow_le (by omega)
    have hD := Nat.two_pow_pos (last - place).toNat
    generalize (2:Nat) ^ (last - place).toNat = D at *
    generalize mag * 2 ^ (place - last).toNat = n' at *
    have h1 := hE.1
    have h2 : 2 * N * D ≤ 2 * n' + D := by omega
    have h3 : 2 * N * D < (4 * hh + 1) * D := by
      have e : (4 * hh + 1) * D = 2 * (2 * hh * D) + D := by grind
      omega
    have := Nat.lt_of_mul_lt_mul_right h3
    omega
/-- a number that has a place in the form is taken whole. -/
theorem rung_exact (f : Format) {mag : Nat} (place : Int) (h : mag ≠ 0) (hm : mag.log2 ≤ f.fractionBits) (hp : f.leastPlace ≤ place) :
    val f.binade (rung f mag place) = mag * 2 ^ (place - f.leastPlace).toNat := by
  obtain ⟨k, hk⟩ : ∃ k, k = (lastOf f mag place - f.leastPlace).toNat := ⟨_, rfl⟩
  have hlast : lastOf f mag place = max (place + mag.log2 - f.fractionBits) f.leastPlace := rfl
  unfold rung
  rw [← hk]
  generalize lastOf f mag place = last at *
  generalize hL : f.leastPlace = L at *
  have hd : (last - place).toNat = 0 := by omega
  rw [hd, Nat.shiftLeft_eq]
  have hc : Toward.cut .even false (mag * 2 ^ (place - last).toNat) 0 = mag * 2 ^ (place - last).toNat := by
    unfold Toward.cut
    simp [Nat.mod_one]
  rw [hc]
  have hb : f.binade = 2 ^ f.fractionBits := rfl
  generalize f.binade = hh at *
  generalize f.fractionBits = fb at *
  have l1 : 2 ^ mag.log2 ≤ mag := Nat.log2_self_le h
  have l2 : mag < 2 ^ (mag.log2 + 1) := Nat.lt_log2_self
  have hpos : 0 < hh := by rw [hb]; exact Nat.two_pow_pos _
  have hlt : mag * 2 ^ (place - last).toNat < 2 * hh := by
    refine Nat.lt_of_lt_of_le (Nat.mul_lt_mul_of_pos_right l2 (Nat.two_pow_pos _)) ?_
    rw [hb, ← Nat.pow_add, Nat.mul_comm 2, ← Nat.pow_succ]
    exact pow_le (by omega)
  have hge : k = 0 ∨ hh ≤ mag * 2 ^ (place - last).toNat := by
    rcases Nat.eq_zero_or_pos k with h0 | h0
    · exact .inl h0
    · right
      rw [hb]
      refine Nat.le_trans (pow_le (b := mag.log2 + (place - last).toNat) (by omega)) ?_
      rw [Nat.pow_add]
      exact Nat.mul_le_mul_right _ l1
  have he : mag * 2 ^ (place - L).toNat = mag * 2 ^ (place - last).toNat * 2 ^ k := by
    rw [Nat.mul_assoc, ← Nat.pow_add]
    congr 2
    omega
  rw [he]
  generalize mag * 2 ^ (place - last).toNat = N at *
  rcases Nat.lt_or_ge N hh with h1 | h1
  · have h0 : k = 0 := by omega
    rw [h0, Nat.zero_mul, Nat.zero_add, val_lt h1, Nat.pow_zero, Nat.mul_one]
  · have e1 : k * hh + N = (k + 1) * hh + (N - hh) := by rw [Nat.succ_mul]; omega
    rw [e1, val_at (by omega)]
    congr 1; omega
/-- what a finite word stands for. -/
theorem read_word (f : Format) (neg : Bool) {r : Nat} (hr : r < f.infRung) (hi : f.infRung < f.signWeight) :
    ∃ m k, f.read (f.word neg r) = .number neg m (f.leastPlace + (k : Nat)) ∧ m * 2 ^ k = val f.binade r ∧ (m = 0 → r = 0) := by
  have hpos : 0 < f.binade := Nat.two_pow_pos _
  have e1 : (f.word neg r / f.signWeight % 2 == 1) = neg := by
    unfold Format.word
    cases neg
    · rw [if_neg (by simp), Nat.div_eq_of_lt (by omega)]; rfl
    · rw [if_pos rfl, Nat.add_div_left _ (by omega), Nat.div_eq_of_lt (by omega)]; rfl
  have e2 : f.word neg r % f.signWeight = r := by
    unfold Format.word
    cases neg
    · rw [if_neg (by simp), Nat.mod_eq_of_lt (by omega)]
    · rw [if_pos rfl, Nat.add_mod_left, Nat.mod_eq_of_lt (by omega)]
  unfold Format.read
  simp only [e1, e2]
  by_cases h : r < f.binade
  · rw [if_pos h]
    exact ⟨r, 0, by simp, by rw [val_lt h]; omega, fun h => h⟩
  · rw [if_neg h, if_pos hr]
    refine ⟨_, _, rfl, ?_, fun h' => ?_⟩
    · unfold val; rw [if_neg h]
    · exfalso; omega
theorem binade_pos (f : Format) : 0 < f.binade := Nat.two_pow_pos _
theorem val_pos {h r : Nat} (hh : 0 < h) (hr : r ≠ 0) : val h r ≠ 0 := by
  have := val_mono_lt hh (r := 0) (s := r) (by omega)
  omega
/-- the product of two finite words above nought: the nearest rung. -/
theorem mul_RN (f : Format) (hf : 1 ≤ f.fractionBits) (hi : f.infRung < f.signWeight) (hl : f.leastPlace ≤ 0) (s t : Bool) {a b : Nat} (ha : a < f.infRung) (hb : b < f.infRung) (ha0 : a ≠ 0) (hb0 : b ≠ 0) :
    ∃ r, f.mul (f.word s a) (f.word t b) = some (f.word (s ^^ t) (min r f.infRung)) ∧ RN f.binade (val f.binade a * val f.binade b) (2 ^ (-f.leastPlace).toNat) r := by
  obtain ⟨m, i, h1, h2, h3⟩ := read_word f s ha hi
  obtain ⟨n, j, h4, h5, h6⟩ := read_word f t hb hi
  unfold Format.mul
  rw [h1, h4]
  have hm : m ≠ 0 := fun h => ha0 (h3 h)
  have hn : n ≠ 0 := fun h => hb0 (h6 h)
  have hmn : m * n ≠ 0 := Nat.mul_ne_zero hm hn
  refine ⟨rung f (m * n) (f.leastPlace + i + (f.leastPlace + j)), ?_, ?_⟩
  · show some (f.nearest (s ^^ t) (m * n) (f.leastPlace + i + (f.leastPlace + j))) = _
    rw [nearest_eq f _ _ hmn]
  · have := rung_RN f hf (f.leastPlace + i + (f.leastPlace + j)) hmn
    generalize hr : rung f (m * n) (f.leastPlace + i + (f.leastPlace + j)) = r at *
    -- the same value
    refine RN.of_same this (Nat.two_pow_pos _) (Nat.two_pow_pos _) ?_
    rw [← h2, ← h5]
    generalize f.leastPlace = L at *
    have e : m * n * 2 ^ (L + i + (L + j) - L).toNat * 2 ^ (-L).toNat = m * n * (2 ^ (L + i + (L + j) - L).toNat * 2 ^ (-L).toNat) := Nat.mul_assoc _ _ _
    have e' : m * 2 ^ i * (n * 2 ^ j) * 2 ^ (L - (L + i + (L + j))).toNat = m * n * (2 ^ i * 2 ^ j * 2 ^ (L - (L + i + (L + j))).toNat) := by grind
    rw [e, e', ← Nat.pow_add, ← Nat.pow_add, ← Nat.pow_add]
    congr 2
    omega
/-- one digit more tells whether something is left: rounding needs no more. -/
theorem Even.sticky {Y n D N : Nat} (hn : 0 < n) (h4 : D % 4 = 0) (h : Even (2 * (Y / n) + (Y % n != 0).toNat) D N) : Even (2 * Y) (n * D) N := by
  obtain ⟨c, rfl⟩ : ∃ c, D = 4 * c := ⟨D / 4, by omega⟩
  have hd := Nat.div_add_mod Y n
  have hm := Nat.mod_lt Y hn
  generalize Y / n = q at *
  generalize Y % n = r at *
  subst hd
  -- the ends, in units of 2
  have cmp : ∀ b : Nat, ((2 * q + (r != 0).toNat < 2 * b ↔ n * q + r < n * b) ∧ (2 * q + (r != 0).toNat = 2 * b ↔ n * q + r = n * b) ∧ (2 * b < 2 * q + (r != 0).toNat ↔ n * b < n * q + r)) := by
    intro b
    rcases Nat.lt_trichotomy q b with h1 | h1 | h1
    · have : n * (q + 1) ≤ n * b := Nat.mul_le_mul_left n h1
      rw [Nat.mul_succ] at this
      have h2 : (r != 0).toNat ≤ 1 := Bool.toNat_le _
      omega
    · subst h1
      by_cases h0 : r = 0
      · subst h0; simp
      · have : (r != 0) = true := by simp [h0]
        rw [this, Bool.toNat_true]
        omega
    · have : n * (b + 1) ≤ n * q := Nat.mul_le_mul_left n h1
      rw [Nat.mul_succ] at this
      omega
  obtain ⟨h1, h2⟩ := h
  have a1 : 2 * N * (4 * c) = 2 * (2 * (2 * c * N)) + 0 := by grind
  have a2 : 2 * N * (n * (4 * c)) = 4 * (n * (2 * c * N)) := by grind
  have a3 : n * (4 * c) = 4 * (n * c) := by grind
  have a4 : n * (2 * c * N + c) = n * (2 * c * N) + n * c := Nat.mul_add _ _ _
  obtain ⟨c1, c2, c3⟩ := cmp (2 * c * N + c)
  unfold Even
  rw [a2, a3]
  rw [a1] at h1 h2
  rw [a4] at c1 c2 c3
  refine ⟨?_, ?_⟩
  · rcases Nat.lt_or_ge (2 * c * N) c with hlt | hge
    · -- the lower end lies below nought
      left
      have : n * (2 * c * N) ≤ n * c := Nat.mul_le_mul_left n (Nat.le_of_lt hlt)
      have hcn : n * (2 * c * N + 1) ≤ n * c := Nat.mul_le_mul_left n hlt
      rw [Nat.mul_succ] at hcn
      omega
    · obtain ⟨d1, d2, d3⟩ := cmp (2 * c * N - c)
      have a5 : n * (2 * c * N - c) = n * (2 * c * N) - n * c := Nat.mul_sub _ _ _
      have a6 : n * c ≤ n * (2 * c * N) := Nat.mul_le_mul_left n hge
      rw [a5] at d1 d2 d3
      generalize n * (2 * c * N) = A at *
      generalize n * c = B at *
      generalize n * q = C at *
      generalize 2 * c * N = E at *
      omega
  · generalize n * (2 * c * N) = A at *
    generalize n * c = B at *
    generalize n * q = C at *
    generalize 2 * c * N = E at *
    omega
/-- a quotient with its rest told: the nearest rung. -/
theorem rung_div (f : Format) (hf : 1 ≤ f.fractionBits) {Y n : Nat} (place : Int) (hn : 0 < n) (hbig : f.fractionBits + 2 ≤ (2 * (Y / n) + (Y % n != 0).toNat).log2) :
    RN f.binade (2 * Y * 2 ^ (place - f.leastPlace).toNat) (n * 2 ^ (f.leastPlace - place).toNat) (rung f (2 * (Y / n) + (Y % n != 0).toNat) place) := by
  obtain ⟨mag, hmag⟩ : ∃ mag, mag = 2 * (Y / n) + (Y % n != 0).toNat := ⟨_, rfl⟩
  rw [← hmag] at hbig ⊢
  have h : mag ≠ 0 := fun h0 => by rw [h0] at hbig; simp at hbig
  obtain ⟨k, hk⟩ : ∃ k, k = (lastOf f mag place - f.leastPlace).toNat := ⟨_, rfl⟩
  have hlast : lastOf f mag place = max (place + mag.log2 - f.fractionBits) f.leastPlace := rfl
  unfold rung
  rw [← hk]
  generalize lastOf f mag place = last at *
  generalize hL : f.leastPlace = L at *
  have h0 : (place - last).toNat = 0 := by omega
  rw [h0, Nat.shiftLeft_zero]
  obtain ⟨N, hN⟩ : ∃ N, N = Toward.cut .even false mag (last - place).toNat := ⟨_, rfl⟩
  have hE := cut_even false mag (last - place).toNat
  rw [← hN] at hE ⊢
  have hb : f.binade = 2 ^ f.fractionBits := rfl
  generalize f.binade = hh at *
  generalize f.fractionBits = fb at *
  have l1 : 2 ^ mag.log2 ≤ mag := Nat.log2_self_le h
  have l2 : mag < 2 ^ (mag.log2 + 1) := Nat.lt_log2_self
  obtain ⟨x, hx⟩ : ∃ x, (last - place).toNat = x + 2 := ⟨(last - place).toNat - 2, by omega⟩
  have hS : Even (2 * Y) (n * 2 ^ (last - place).toNat) N := by
    refine Even.sticky hn ?_ (hmag ▸ hE)
    rw [hx, Nat.pow_add]; omega
  refine RN.of_even (k := k) (N := N) ?_ ?_ (Nat.mul_pos hn (Nat.two_pow_pos _)) ?_ ?_ ?_
  · rw [hb]; exact Nat.le_trans (by decide : 2 ≤ 2 ^ 1) (pow_le hf)
  · rw [hb]
    obtain ⟨x, rfl⟩ : ∃ x, fb = x + 1 := ⟨fb - 1, by omega⟩
    rw [Nat.pow_succ]; omega
  · refine hS.same (Nat.mul_pos hn (Nat.two_pow_pos _)) (Nat.mul_pos (Nat.mul_pos hn (Nat.two_pow_pos _)) (Nat.two_pow_pos _)) ?_
    have e1 : 2 * Y * (n * 2 ^ (L - place).toNat * 2 ^ k) = 2 * Y * n * (2 ^ (L - place).toNat * 2 ^ k) := by grind
    have e2 : 2 * Y * 2 ^ (place - L).toNat * (n * 2 ^ (last - place).toNat) = 2 * Y * n * (2 ^ (place - L).toNat * 2 ^ (last - place).toNat) := by grind
    rw [e1, e2, ← Nat.pow_add, ← Nat.pow_add]
    congr 2
    omega
  · rcases Nat.eq_zero_or_pos k with h0 | h0
    · exact .inl h0
    · right
      have hY : 2 ^ mag.log2 * n ≤ 2 * Y := by
        obtain ⟨y, hy⟩ : ∃ y, mag.log2 = y + 1 := ⟨mag.log2 - 1, by omega⟩
        rw [hy, Nat.pow_succ] at l1 ⊢
        have h2 : (Y % n != 0).toNat ≤ 1 := Bool.toNat_le _
        have h3 : 2 ^ y ≤ Y / n := by omega
        have h4 := (Nat.le_div_iff_mul_le hn).1 h3
        have h5 : 2 ^ y * 2 * n = 2 * (2 ^ y * n) := by grind
        omega
      have e1 : hh * 2 ^ k * (n * 2 ^ (L - place).toNat) = n * (hh * (2 ^ k * 2 ^ (L - place).toNat)) := by grind
      rw [e1, hb, ← Nat.pow_add, ← Nat.pow_add]
      refine Nat.le_trans (Nat.mul_le_mul_left n (pow_le (b := mag.log2 + (place - L).toNat) (by omega))) ?_
      rw [Nat.pow_add, ← Nat.mul_assoc, Nat.mul_comm n]
      exact Nat.mul_le_mul_right _ hY
  · have hlt : mag < 2 * hh * 2 ^ (last - place).toNat := by
      refine Nat.lt_of_lt_of_le l2 ?_
      rw [hb, Nat.mul_comm 2, ← Nat.pow_succ, ← Nat.pow_add]
      exact pow_le (by omega)
    have hD := Nat.two_pow_pos (last - place).toNat
    generalize (2:Nat) ^ (last - place).toNat = D at *
    have h1 := hE.1
    have h2 : 2 * N * D ≤ 2 * mag + D := by omega
    have h3 : 2 * N * D < (4 * hh + 1) * D := by
      have e : (4 * hh + 1) * D = 2 * (2 * hh * D) + D := by grind
      omega
    have := Nat.lt_of_mul_lt_mul_right h3
    omega
/-- the quotient of two finite words above nought: the nearest rung. -/
theorem div_RN (f : Format) (hf : 1 ≤ f.fractionBits) (hi : f.infRung < f.signWeight) (hl : f.leastPlace ≤ 0) (s t : Bool) {a b : Nat} (ha : a < f.infRung) (hb : b < f.infRung) (ha0 : a ≠ 0) (hb0 : b ≠ 0) :
    ∃ r, f.div (f.word s a) (f.word t b) = some (f.word (s ^^ t) (min r f.infRung)) ∧ RN f.binade (val f.binade a * 2 ^ (-f.leastPlace).toNat) (val f.binade b) r := by
  obtain ⟨m, i, h1, h2, h3⟩ := read_word f s ha hi
  obtain ⟨n, j, h4, h5, h6⟩ := read_word f t hb hi
  unfold Format.div
  rw [h1, h4]
  have hm : m ≠ 0 := fun h => ha0 (h3 h)
  have hn : n ≠ 0 := fun h => hb0 (h6 h)
  obtain ⟨more, hmore⟩ : ∃ more, more = f.fractionBits + 2 + n.log2 - m.log2 := ⟨_, rfl⟩
  have l1 : 2 ^ m.log2 ≤ m := Nat.log2_self_le hm
  have l2 : n < 2 ^ (n.log2 + 1) := Nat.lt_log2_self
  have hq : 2 ^ (f.fractionBits + 1) ≤ m * 2 ^ more / n := by
    rw [Nat.le_div_iff_mul_le (by omega)]
    refine Nat.le_trans (Nat.mul_le_mul_left _ (Nat.le_of_lt l2)) ?_
    rw [← Nat.pow_add]
    refine Nat.le_trans (pow_le (b := m.log2 + more) (by omega)) ?_
    rw [Nat.pow_add]
    exact Nat.mul_le_mul_right _ l1
  have hbig : f.fractionBits + 2 ≤ (2 * (m * 2 ^ more / n) + (m * 2 ^ more % n != 0).toNat).log2 := by
    rw [Nat.le_log2 (by have := Nat.two_pow_pos (f.fractionBits + 1); omega), Nat.pow_succ]
    omega
  have hRN := rung_div f hf (Y := m * 2 ^ more) (n := n) (f.leastPlace + i - (f.leastPlace + j) - more - 1) (by omega) hbig
  refine ⟨_, ?_, RN.of_same hRN (Nat.mul_pos (by omega) (Nat.two_pow_pos _)) ?_ ?_⟩
  · show Option.map f.write (Datum.quotient (f.fractionBits + 2) (.number s m (f.leastPlace + i)) (.number t n (f.leastPlace + j))) = _
    unfold Datum.quotient
    simp only [if_neg hn]
    rw [← hmore, Nat.shiftLeft_eq]
    show some (f.nearest (s ^^ t) _ _) = _
    rw [nearest_eq f _ _ (fun h0 => by rw [h0] at hbig; simp at hbig)]
  · exact Nat.pos_of_ne_zero (val_pos (binade_pos f) hb0)
  · rw [← h2, ← h5]
    generalize f.leastPlace = L at *
    have e : 2 * (m * 2 ^ more) * 2 ^ (L + i - (L + j) - more - 1 - L).toNat * (n * 2 ^ j) = m * n * (2 ^ 1 * 2 ^ more * 2 ^ (L + i - (L + j) - more - 1 - L).toNat * 2 ^ j) := by grind
    have e' : m * 2 ^ i * 2 ^ (-L).toNat * (n * 2 ^ (L - (L + i - (L + j) - more - 1)).toNat) = m * n * (2 ^ i * 2 ^ (-L).toNat * 2 ^ (L - (L + i - (L + j) - more - 1)).toNat) := by grind
    rw [e, e', ← Nat.pow_add, ← Nat.pow_add, ← Nat.pow_add, ← Nat.pow_add, ← Nat.pow_add]
    congr 2
    omega
end Near
end Go.Proofs.YtdfodfflkmcgpaaGreatDoor
/- The reading of a decimal of at most nineteen digits by one scaled product: the nearest rung. Of whole numbers alone. -/
namespace Go.Proofs.YtdfodfflkmcgpaaGreatDoor
namespace Parse
open Near Farey Scaled
def lowOk (p : Int) : Bool := decide (2 ^ (lp p).toNat * 10 ^ (-p).toNat ≤ 10 ^ p.toNat * 2 ^ (-lp p).toNat)
def highOk (p : Int) : Bool := decide (10 ^ p.toNat * 2 ^ (-lp p).toNat * 4096 ≤ 8191 * (2 ^ (lp p).toNat * 10 ^ (-p).toNat))
theorem low_all : ((List.range 671).all fun i => lowOk ((i : Int) - 345) && highOk ((i : Int) - 345)) = true := by decide +kernel
theorem low_at {p : Int} (h0 : -345 ≤ p) (h1 : p ≤ 325) : 2 ^ (lp p).toNat * 10 ^ (-p).toNat ≤ 10 ^ p.toNat * 2 ^ (-lp p).toNat ∧ 10 ^ p.toNat * 2 ^ (-lp p).toNat * 4096 ≤ 8191 * (2 ^ (lp p).toNat * 10 ^ (-p).toNat) := by
  have h := List.all_eq_true.1 low_all (p + 345).toNat (List.mem_range.2 (by omega))
  rw [show (((p + 345).toNat : Nat) : Int) - 345 = p from by omega, Bool.and_eq_true] at h
  exact ⟨of_decide_eq_true h.1, of_decide_eq_true h.2⟩
def roundU (u : Nat) : Nat := (u + 1 + u / 4 % 2) / 4
def halfU (u : Nat) : Nat := if u % 2 = 1 then 2 * (u / 4) + 1 else u / 2
def parseB (d : Nat) : Nat := d.log2 + 1
def parseE (t L d : Nat) (p : Int) : Int := min L (t + 1 - parseB d - lp p)
def parseS (t L d : Nat) (p : Int) : Int := 61 - parseE t L d p - parseB d - lp p
def parseX (d : Nat) : Nat := d * 2 ^ (64 - parseB d)
def parseU (t L d : Nat) (p : Int) : Nat := exactU (parseX d) p (parseS t L d p).toNat
def parseN (t u : Nat) : Nat := if 2 ^ (t + 3) - 2 ≤ u then roundU (halfU u) else roundU u
def parseK (t L d : Nat) (p : Int) (u : Nat) : Nat := (L - parseE t L d p).toNat + (if 2 ^ (t + 3) - 2 ≤ u then 1 else 0)
/-- the rung that is reckoned. -/
def parseR (t L d : Nat) (p : Int) : Nat :=
  if 64 ≤ parseS t L d p then 0 else parseK t L d p (parseU t L d p) * 2 ^ t + parseN t (parseU t L d p)
theorem roundU_even (u : Nat) : Even u 4 (roundU u) := by
  unfold Even roundU
  rcases Nat.mod_two_eq_zero_or_one (u / 4) with h | h <;> rw [h] <;> omega
/-- a number cut with its rest told, rounded. -/
theorem roundU_sticky {A D : Nat} (hD : 0 < D) : Even (2 * A) (D * 4) (roundU (2 * (A / D) + (A % D != 0).toNat)) := Even.sticky hD (by omega) (roundU_even _)
theorem half_sticky {A D : Nat} (hD : 0 < D) : halfU (2 * (A / D) + (A % D != 0).toNat) = 2 * (A / (D * 2)) + (A % (D * 2) != 0).toNat := by
  have e1 : A / (D * 2) = A / D / 2 := (Nat.div_div_eq_div_mul A D 2).symm
  have e2 : A % (D * 2) = D * (A / D % 2) + A % D := by rw [Nat.mod_mul]; omega
  rw [e1, e2]
  unfold halfU
  generalize A / D = q
  generalize A % D = r
  rcases Nat.eq_zero_or_pos r with rfl | hr
  · rcases Nat.mod_two_eq_zero_or_one q with h | h
    · rw [h]; simp; omega
    · rw [h]
      have : (D * 1 + 0 != 0) = true := by simp; omega
      rw [this]; simp; omega
  · have h1 : (r != 0) = true := by simp; omega
    have h2 : (D * (q % 2) + r != 0) = true := by simp; omega
    rw [h1, h2, Bool.toNat_true, if_pos (by omega)]
    omega
/-- the plain law, of the two ends of the scaled number alone. -/
theorem rung_of {t k n d A D : Nat} (ht : 1 ≤ t) (hd : 0 < d) (hD : 0 < D) (heq : 2 * A * (d * 2 ^ k) = n * (D * 4))
    (hlow : k = 0 ∨ 2 ^ t * (2 * D) ≤ A) (hup : A * 8192 ≤ 8191 * (2 * D * 2 ^ (t + 2))) (ht2 : 14 ≤ t) :
    RN (2 ^ t) n d ((k + (if 2 ^ (t + 3) - 2 ≤ 2 * (A / D) + (A % D != 0).toNat then 1 else 0)) * 2 ^ t + parseN t (2 * (A / D) + (A % D != 0).toNat)) ∧
    ((k + (if 2 ^ (t + 3) - 2 ≤ 2 * (A / D) + (A % D != 0).toNat then 1 else 0)) = 0 ∨ 2 ^ t ≤ parseN t (2 * (A / D) + (A % D != 0).toNat)) ∧
    parseN t (2 * (A / D) + (A % D != 0).toNat) < 2 ^ (t + 1) ∧ 2 * (A / D) + (A % D != 0).toNat < 2 ^ (t + 4) := by
  obtain ⟨h, hh⟩ : ∃ h, h = 2 ^ t := ⟨_, rfl⟩
  have h1 : 2 ^ (t + 1) = 2 * h := by rw [Nat.pow_succ, hh]; omega
  have h2 : 2 ^ (t + 2) = 4 * h := by rw [Nat.pow_succ, h1]; omega
  have h3 : 2 ^ (t + 3) = 8 * h := by rw [Nat.pow_succ, h2]; omega
  have h4 : 2 ^ (t + 4) = 16 * h := by rw [Nat.pow_succ, h3]; omega
  have hbig : 16384 ≤ h := by rw [hh]; exact Nat.le_trans (by decide : 16384 ≤ 2 ^ 14) (pow_le ht2)
  have hev : h % 2 = 0 := by
    obtain ⟨x, rfl⟩ : ∃ x, t = x + 1 := ⟨t - 1, by omega⟩
    rw [hh, Nat.pow_succ]; omega
  rw [h1, h3, h4]
  rw [← hh] at hlow ⊢
  rw [h2] at hup
  have hs1 : (A % D != 0).toNat ≤ 1 := Bool.toNat_le _
  have hq1 : A / D < 8 * h := by
    rw [Nat.div_lt_iff_lt_mul hD]
    have e : 8191 * (2 * D * (4 * h)) = 8191 * (8 * h * D) := by grind
    have hp : 0 < 8 * h * D := Nat.mul_pos (by omega) hD
    omega
  have hqlow : k = 0 ∨ 2 * h ≤ A / D := by
    refine hlow.imp id fun hl => ?_
    rw [Nat.le_div_iff_mul_le hD]
    have e : h * (2 * D) = 2 * h * D := by grind
    omega
  have hk := Nat.two_pow_pos k
  have hR := roundU_sticky (A := A) hD
  have hR2 := roundU_sticky (A := A) (D := D * 2) (by omega)
  have hN : parseN t (2 * (A / D) + (A % D != 0).toNat) = if 8 * h - 2 ≤ 2 * (A / D) + (A % D != 0).toNat then roundU (2 * (A / (D * 2)) + (A % (D * 2) != 0).toNat) else roundU (2 * (A / D) + (A % D != 0).toNat) := by
    unfold parseN; rw [h3, half_sticky hD]
  rw [hN]
  by_cases hu : 8 * h - 2 ≤ 2 * (A / D) + (A % D != 0).toNat
  · rw [if_pos hu, if_pos hu]
    have e1 : A / (D * 2) = A / D / 2 := (Nat.div_div_eq_div_mul A D 2).symm
    have hs2 : (A % (D * 2) != 0).toNat ≤ 1 := Bool.toNat_le _
    by_cases hA : 4 * h ≤ A / D
    · have hAD := (Nat.le_div_iff_mul_le hD).1 hA
      have b1 : h ≤ roundU (2 * (A / (D * 2)) + (A % (D * 2) != 0).toNat) := by unfold roundU; rw [e1]; omega
      have hq2 : A / D < 8 * h - 8 := by
        rw [Nat.div_lt_iff_lt_mul hD]
        have e : 8191 * (2 * D * (4 * h)) = 8191 * (8 * h * D) := by grind
        have e2 : (8 * h - 8) * D = 8 * h * D - 8 * D := Nat.sub_mul _ _ _
        have e3 : 16384 * D ≤ h * D := Nat.mul_le_mul_right D hbig
        have e4 : 8 * h * D = 8 * (h * D) := Nat.mul_assoc _ _ _
        omega
      have b2 : roundU (2 * (A / (D * 2)) + (A % (D * 2) != 0).toNat) < 2 * h := by
        unfold roundU
        rw [e1]
        generalize (2 * (A / D / 2) + (A % (D * 2) != 0).toNat) / 4 = z
        have : z % 2 ≤ 1 := by omega
        omega
      refine ⟨?_, .inr b1, b2, by omega⟩
      refine RN.of_even (by omega) hev hd ?_ (.inr ?_) (Nat.le_of_lt b2)
      · refine hR2.same (Nat.mul_pos (by omega) (by omega)) (Nat.mul_pos hd (Nat.two_pow_pos _)) ?_
        rw [Nat.pow_succ]
        have : 2 * A * (d * (2 ^ k * 2)) = 2 * (2 * A * (d * 2 ^ k)) := by grind
        rw [this, heq]; grind
      · -- the number is at least h in its place
        have c1 : h * 2 ^ (k + 1) * d * (2 * D) ≤ n * (2 * D) := by
          have d1 : n * (2 * D) * 2 = 2 * A * (d * 2 ^ k) := by rw [heq]; grind
          have d2 : 4 * h * D * (d * 2 ^ k) ≤ A * (d * 2 ^ k) := Nat.mul_le_mul_right _ hAD
          have d3 : h * 2 ^ (k + 1) * d * (2 * D) = 4 * h * D * (d * 2 ^ k) := by rw [Nat.pow_succ]; grind
          have d4 : 2 * A * (d * 2 ^ k) = 2 * (A * (d * 2 ^ k)) := Nat.mul_assoc _ _ _
          omega
        exact Nat.le_of_mul_le_mul_right c1 (by omega)
    · -- just below: it rounds up to the next binade
      have hAD : A / D = 4 * h - 1 := by omega
      have hodd : A / D % 2 = 1 := by omega
      have e2 : A % (D * 2) = D * (A / D % 2) + A % D := by rw [Nat.mod_mul]; omega
      have b0 : (A % (D * 2) != 0).toNat = 1 := by
        have : (A % (D * 2) != 0) = true := by rw [e2, hodd]; simp; omega
        rw [this]; rfl
      have b1 : roundU (2 * (A / (D * 2)) + (A % (D * 2) != 0).toNat) = h := by
        unfold roundU; rw [e1, b0, hAD]
        omega
      rw [b1]
      refine ⟨?_, .inr (by omega), by omega, by omega⟩
      have e3 : (k + 1) * h + h = k * h + 2 * h := by rw [Nat.succ_mul]; omega
      rw [e3]
      have hm := Nat.div_add_mod A D
      have hr := Nat.mod_lt A hD
      have hE : Even (2 * A) (D * 4) (2 * h) := by
        rw [hAD] at hm
        have f1 : D * (4 * h - 1) = 4 * (D * h) - D := by rw [Nat.mul_sub, Nat.mul_one, Nat.mul_left_comm]
        have f2 : 2 * (2 * h) * (D * 4) = 16 * (D * h) := by grind
        have f3 : D ≤ 4 * (D * h) := by
          have : D * 1 ≤ D * h := Nat.mul_le_mul_left D (by omega)
          omega
        unfold Even
        rw [f2]
        omega
      refine RN.of_even (by omega) hev hd ?_ ?_ (Nat.le_refl _)
      · exact hE.same (Nat.mul_pos hD (by omega)) (Nat.mul_pos hd hk) heq
      · refine hlow.imp id fun hl => ?_
        have c1 : h * 2 ^ k * d * (2 * D) ≤ n * (2 * D) := by
          have d1 : n * (2 * D) * 2 = 2 * A * (d * 2 ^ k) := by rw [heq]; grind
          have d2 : h * (2 * D) * (d * 2 ^ k) ≤ A * (d * 2 ^ k) := Nat.mul_le_mul_right _ hl
          have d3 : h * 2 ^ k * d * (2 * D) = h * (2 * D) * (d * 2 ^ k) := by grind
          have d4 : 2 * A * (d * 2 ^ k) = 2 * (A * (d * 2 ^ k)) := Nat.mul_assoc _ _ _
          omega
        exact Nat.le_of_mul_le_mul_right c1 (by omega)
  · rw [if_neg hu, if_neg hu]
    have b2 : roundU (2 * (A / D) + (A % D != 0).toNat) < 2 * h := by
      unfold roundU
      generalize (2 * (A / D) + (A % D != 0).toNat) / 4 = z
      have : z % 2 ≤ 1 := by omega
      omega
    refine ⟨?_, ?_, b2, by omega⟩
    · refine RN.of_even (by omega) hev hd ?_ ?_ (Nat.le_of_lt b2)
      · exact hR.same (Nat.mul_pos hD (by omega)) (Nat.mul_pos hd hk) heq
      · refine hlow.imp id fun hl => ?_
        have c1 : h * 2 ^ k * d * (2 * D) ≤ n * (2 * D) := by
          have d1 : n * (2 * D) * 2 = 2 * A * (d * 2 ^ k) := by rw [heq]; grind
          have d2 : h * (2 * D) * (d * 2 ^ k) ≤ A * (d * 2 ^ k) := Nat.mul_le_mul_right _ hl
          have d3 : h * 2 ^ k * d * (2 * D) = h * (2 * D) * (d * 2 ^ k) := by grind
          have d4 : 2 * A * (d * 2 ^ k) = 2 * (A * (d * 2 ^ k)) := Nat.mul_assoc _ _ _
          omega
        exact Nat.le_of_mul_le_mul_right c1 (by omega)
    · refine hqlow.imp id fun hl => ?_
      unfold roundU
      omega
theorem big129 : (680564733841876926926749214863536422912 : Nat) = 2 ^ 129 := rfl
theorem le_of_scaled {a b c : Nat} (hc : 0 < c) (h : a * c ≤ b * c) : a ≤ b := Nat.le_of_mul_le_mul_right h hc
/-- what parseFloat reckons is the nearest rung; and what pack asks of it. -/
theorem parse_RN {t L d : Nat} {p : Int} (ht : 14 ≤ t) (ht2 : t ≤ 52) (hd : 0 < d) (hd64 : d < 18446744073709551616) (h0 : -345 ≤ p) (h1 : p ≤ 325) :
    RN (2 ^ t) (d * 10 ^ p.toNat * 2 ^ L) (10 ^ (-p).toNat) (parseR t L d p) ∧
    (parseS t L d p < 64 → (parseK t L d p (parseU t L d p) = 0 ∨ 2 ^ t ≤ parseN t (parseU t L d p)) ∧ parseN t (parseU t L d p) < 2 ^ (t + 1) ∧ parseU t L d p < 2 ^ (t + 4)) := by
  obtain ⟨lo, hi⟩ := low_at h0 h1
  have hb1 : 2 ^ d.log2 ≤ d := Nat.log2_self_le (by omega)
  have hb2 : d < 2 ^ (d.log2 + 1) := Nat.lt_log2_self
  have hb3 : d.log2 < 64 := (Nat.log2_lt (by omega)).2 (by exact hd64)
  have ha0 : 0 < 10 ^ p.toNat := Nat.pow_pos (by omega)
  have hc0 : 0 < 10 ^ (-p).toNat := Nat.pow_pos (by omega)
  unfold parseR parseK
  obtain ⟨e, he⟩ : ∃ e, e = parseE t L d p := ⟨_, rfl⟩
  obtain ⟨s, hs⟩ : ∃ s, s = parseS t L d p := ⟨_, rfl⟩
  have he' := he
  have hs' := hs
  unfold parseE at he'
  unfold parseS at hs'
  rw [← he] at hs' ⊢
  rw [← hs]
  have hU : parseU t L d p = exactU (parseX d) p s.toNat := by unfold parseU; rw [← hs]
  rw [hU]
  unfold parseX exactU num den
  have hB : parseB d = d.log2 + 1 := rfl
  rw [hB] at he' hs' ⊢
  clear hB
  generalize d.log2 = b at *
  obtain ⟨x, hx⟩ : ∃ x, x = lp p := ⟨_, rfl⟩
  rw [← hx] at lo hi he' hs' ⊢
  generalize 10 ^ p.toNat = a at *
  generalize 10 ^ (-p).toNat = c at *
  clear hx he hs hU
  by_cases hs64 : 64 ≤ s
  · rw [if_pos hs64]
    refine ⟨⟨.inl rfl, .inl ?_⟩, fun h => absurd hs64 (by omega)⟩
    have hm : mid (2 ^ t) 0 = 1 := by
      have h1 : 1 < 2 ^ t := Nat.lt_of_lt_of_le (by decide : 1 < 2 ^ 14) (pow_le ht)
      unfold mid
      rw [val_lt (by omega), val_lt h1]
    rw [hm, Nat.one_mul]
    -- by the upper end
    have c1 : a * 2 ^ (-x).toNat < 2 * (2 ^ x.toNat * c) := by
      have : 0 < 2 ^ x.toNat * c := Nat.mul_pos (Nat.two_pow_pos _) hc0
      omega
    refine Nat.lt_of_mul_lt_mul_right (a := 2 ^ (-x).toNat) ?_
    have c2 : 2 * (d * a * 2 ^ L) * 2 ^ (-x).toNat = 2 * d * 2 ^ L * (a * 2 ^ (-x).toNat) := by grind
    rw [c2]
    have c3 : 2 * d * 2 ^ L * (a * 2 ^ (-x).toNat) ≤ 2 * 2 ^ (b + 1) * 2 ^ L * (a * 2 ^ (-x).toNat) := Nat.mul_le_mul_right _ (Nat.mul_le_mul_right _ (Nat.mul_le_mul_left 2 (Nat.le_of_lt hb2)))
    have c4 : 2 * 2 ^ (b + 1) * 2 ^ L * (a * 2 ^ (-x).toNat) < 2 * 2 ^ (b + 1) * 2 ^ L * (2 * (2 ^ x.toNat * c)) := Nat.mul_lt_mul_of_pos_left c1 (Nat.mul_pos (Nat.mul_pos (by omega) (Nat.two_pow_pos _)) (Nat.two_pow_pos _))
    have c5 : 2 * 2 ^ (b + 1) * 2 ^ L * (2 * (2 ^ x.toNat * c)) = c * (2 ^ 1 * 2 ^ (b + 1) * 2 ^ L * 2 ^ 1 * 2 ^ x.toNat) := by grind
    have c6 : c * (2 ^ 1 * 2 ^ (b + 1) * 2 ^ L * 2 ^ 1 * 2 ^ x.toNat) ≤ c * 2 ^ (-x).toNat := by
      rw [← Nat.pow_add, ← Nat.pow_add, ← Nat.pow_add, ← Nat.pow_add]
      exact Nat.mul_le_mul_left c (pow_le (by omega))
    omega
  · rw [if_neg hs64]
    obtain ⟨k, hk⟩ : ∃ k, k = ((L : Int) - e).toNat := ⟨_, rfl⟩
    rw [← hk, big129]
    have hst : ∀ z : Nat, (if z = 0 then 0 else 1) = (z != 0).toNat := fun z => by
      by_cases h : z = 0
      · rw [h]; rfl
      · rw [if_neg h, show (z != 0) = true from bne_iff_ne.2 h]; rfl
    rw [hst]
    have hD : 0 < c * 2 ^ (x - 127).toNat * (2 ^ s.toNat * 2 ^ 129) := Nat.mul_pos (Nat.mul_pos hc0 (Nat.two_pow_pos _)) (Nat.mul_pos (Nat.two_pow_pos _) (Nat.two_pow_pos _))
    have main := rung_of (t := t) (k := k) (n := d * a * 2 ^ L) (d := c) (A := d * 2 ^ (64 - (b + 1)) * (a * 2 ^ (127 - x).toNat)) (D := c * 2 ^ (x - 127).toNat * (2 ^ s.toNat * 2 ^ 129)) (by omega) hc0 hD ?_ ?_ ?_ ht
    · obtain ⟨m1, m2, m3, m4⟩ := main
      exact ⟨m1, fun _ => ⟨m2, m3, m4⟩⟩
    · have e1 : 2 * (d * 2 ^ (64 - (b + 1)) * (a * 2 ^ (127 - x).toNat)) * (c * 2 ^ k) = d * a * c * (2 ^ 1 * 2 ^ (64 - (b + 1)) * 2 ^ (127 - x).toNat * 2 ^ k) := by grind
      have e2 : d * a * 2 ^ L * (c * 2 ^ (x - 127).toNat * (2 ^ s.toNat * 2 ^ 129) * 4) = d * a * c * (2 ^ L * 2 ^ (x - 127).toNat * 2 ^ s.toNat * 2 ^ 129 * 2 ^ 2) := by grind
      rw [e1, e2]
      repeat rw [← Nat.pow_add]
      congr 2
      omega
    · rcases Nat.eq_zero_or_pos k with hk0 | hk0
      · exact .inl hk0
      · right
        refine le_of_scaled (Nat.two_pow_pos (-x).toNat) ?_
        have e1 : 2 ^ t * (2 * (c * 2 ^ (x - 127).toNat * (2 ^ s.toNat * 2 ^ 129))) * 2 ^ (-x).toNat = c * (2 ^ t * 2 ^ 1 * 2 ^ (x - 127).toNat * 2 ^ s.toNat * 2 ^ 129 * 2 ^ (-x).toNat) := by grind
        have e2 : d * 2 ^ (64 - (b + 1)) * (a * 2 ^ (127 - x).toNat) * 2 ^ (-x).toNat = d * (2 ^ (64 - (b + 1)) * 2 ^ (127 - x).toNat) * (a * 2 ^ (-x).toNat) := by grind
        rw [e1, e2]
        refine Nat.le_trans ?_ (Nat.mul_le_mul (Nat.mul_le_mul_right _ hb1) lo)
        have e3 : 2 ^ b * (2 ^ (64 - (b + 1)) * 2 ^ (127 - x).toNat) * (2 ^ x.toNat * c) = c * (2 ^ b * 2 ^ (64 - (b + 1)) * 2 ^ (127 - x).toNat * 2 ^ x.toNat) := by grind
        rw [e3]
        repeat rw [← Nat.pow_add]
        exact Nat.mul_le_mul_left c (pow_le (by omega))
    · refine le_of_scaled (Nat.two_pow_pos (-x).toNat) ?_
      have e2 : d * 2 ^ (64 - (b + 1)) * (a * 2 ^ (127 - x).toNat) * 8192 * 2 ^ (-x).toNat = d * (2 ^ (64 - (b + 1)) * 2 ^ (127 - x).toNat * 2) * (a * 2 ^ (-x).toNat * 4096) := by grind
      rw [e2]
      refine Nat.le_trans (Nat.mul_le_mul (Nat.mul_le_mul_right _ (Nat.le_of_lt hb2)) hi) ?_
      have e1 : 8191 * (2 * (c * 2 ^ (x - 127).toNat * (2 ^ s.toNat * 2 ^ 129)) * 2 ^ (t + 2)) * 2 ^ (-x).toNat = 8191 * c * (2 ^ 1 * 2 ^ (x - 127).toNat * 2 ^ s.toNat * 2 ^ 129 * 2 ^ (t + 2) * 2 ^ (-x).toNat) := by grind
      have e3 : 2 ^ (b + 1) * (2 ^ (64 - (b + 1)) * 2 ^ (127 - x).toNat * 2) * (8191 * (2 ^ x.toNat * c)) = 8191 * c * (2 ^ (b + 1) * 2 ^ (64 - (b + 1)) * 2 ^ (127 - x).toNat * 2 ^ 1 * 2 ^ x.toNat) := by grind
      rw [e1, e3]
      repeat rw [← Nat.pow_add]
      exact Nat.mul_le_mul_left _ (pow_le (by omega))
end Parse
end Go.Proofs.YtdfodfflkmcgpaaGreatDoor
/- Digits as a number; what of them the reader keeps; exponents, capped. Of lists alone. -/
namespace Go.Proofs.YtdfodfflkmcgpaaGreatDoor
set_option linter.unusedVariables false
/-- the number that digits spell. -/
def natOf (l : List UInt8) : Nat := l.foldl (fun a c => a * 10 + (c.toNat - 48)) 0
def isDig (c : UInt8) : Prop := 48 ≤ c.toNat ∧ c.toNat ≤ 57
theorem snoc_ind {p : List UInt8 → Prop} (nil : p []) (append_singleton : ∀ m c, p m → p (m ++ [c])) (l : List UInt8) : p l := by
  have : ∀ n (l : List UInt8), l.length = n → p l := by
    intro n
    induction n with
    | zero => intro l h; rw [List.eq_nil_of_length_eq_zero h]; exact nil
    | succ n ih =>
      intro l h
      have hne : l ≠ [] := fun h0 => by rw [h0] at h; cases h
      rw [← List.dropLast_concat_getLast hne]
      exact append_singleton _ _ (ih _ (by rw [List.length_dropLast]; omega))
  exact this l.length l rfl
theorem natOf_nil : natOf [] = 0 := rfl
theorem natOf_snoc (l : List UInt8) (c : UInt8) : natOf (l ++ [c]) = natOf l * 10 + (c.toNat - 48) := by
  unfold natOf; rw [List.foldl_append]; rfl
theorem natOf_append (l m : List UInt8) : natOf (l ++ m) = natOf l * 10 ^ m.length + natOf m := by
  induction m using snoc_ind with
  | nil => simp [natOf_nil]
  | append_singleton m c ih =>
    rw [← List.append_assoc, natOf_snoc, ih, natOf_snoc, List.length_append, List.length_singleton, Nat.pow_succ]
    grind
theorem natOf_lt {l : List UInt8} (h : ∀ c ∈ l, isDig c) : natOf l < 10 ^ l.length := by
  induction l using snoc_ind with
  | nil => exact Nat.one_pos
  | append_singleton m c ih =>
    rw [natOf_snoc, List.length_append, List.length_singleton, Nat.pow_succ]
    have h1 := ih fun c hc => h c (List.mem_append_left _ hc)
    have h2 := h c (List.mem_append_right _ (List.mem_singleton.2 rfl))
    unfold isDig at h2
    omega
theorem natOf_zeros {l : List UInt8} (h : ∀ c ∈ l, c = 48) : natOf l = 0 := by
  induction l using snoc_ind with
  | nil => rfl
  | append_singleton m c ih =>
    rw [natOf_snoc, ih fun c hc => h c (List.mem_append_left _ hc), h c (List.mem_append_right _ (List.mem_singleton.2 rfl))]
    rfl
theorem take_succ_at {l : List UInt8} {k : Nat} (h : k < l.length) : l.take (k + 1) = l.take k ++ [l[k]] := by
  rw [List.take_add_one, List.getElem?_eq_getElem h]; rfl
theorem natOf_take_succ {l : List UInt8} {k : Nat} (h : k < l.length) : natOf (l.take (k + 1)) = natOf (l.take k) * 10 + (l[k].toNat - 48) := by
  rw [take_succ_at h, natOf_snoc]
theorem natOf_take_lt {l : List UInt8} (h : ∀ c ∈ l, isDig c) (k : Nat) : natOf (l.take k) < 10 ^ k := by
  refine Nat.lt_of_lt_of_le (natOf_lt fun c hc => h c (List.mem_of_mem_take hc)) ?_
  exact Nat.pow_le_pow_right (by omega) (List.length_take_le _ _)
/-- is something left out that is not nought? (of the first k digits) -/
def truncN (D : List UInt8) (k : Nat) : Bool := ((D.take k).drop 19).any fun c => c != 48
theorem truncN_small {D : List UInt8} {k : Nat} (h : k ≤ 19) : truncN D k = false := by
  unfold truncN
  rw [List.drop_eq_nil_of_le (by rw [List.length_take]; omega)]
  rfl
theorem truncN_succ {D : List UInt8} {k : Nat} (h : 19 ≤ k) (hk : k < D.length) : truncN D (k + 1) = (truncN D k || D[k] != 48) := by
  unfold truncN
  rw [take_succ_at hk, List.drop_append_of_le_length (by rw [List.length_take]; omega), List.any_append]
  simp
/-- an exponent's digits, capped. -/
def capN (X : List UInt8) : Nat := X.foldl (fun e c => if e < 10000 then e * 10 + (c.toNat - 48) else e) 0
theorem capN_snoc (X : List UInt8) (c : UInt8) : capN (X ++ [c]) = if capN X < 10000 then capN X * 10 + (c.toNat - 48) else capN X := by
  unfold capN; rw [List.foldl_append]; rfl
theorem capN_take_succ {X : List UInt8} {k : Nat} (h : k < X.length) : capN (X.take (k + 1)) = if capN (X.take k) < 10000 then capN (X.take k) * 10 + (X[k].toNat - 48) else capN (X.take k) := by
  rw [take_succ_at h, capN_snoc]
theorem capN_lt {X : List UInt8} (h : ∀ c ∈ X, isDig c) : capN X < 100000 := by
  induction X using snoc_ind with
  | nil => decide
  | append_singleton m c ih =>
    rw [capN_snoc]
    have h1 := ih fun c hc => h c (List.mem_append_left _ hc)
    have h2 := h c (List.mem_append_right _ (List.mem_singleton.2 rfl))
    unfold isDig at h2
    split <;> omega
/-- capped or not: it is the number where this is below the cap, and at the cap or above where that is. -/
theorem capN_spec {X : List UInt8} (h : ∀ c ∈ X, isDig c) : (natOf X < 10000 → capN X = natOf X) ∧ (10000 ≤ natOf X → 10000 ≤ capN X) ∧ capN X ≤ natOf X := by
  induction X using snoc_ind with
  | nil => exact ⟨fun _ => rfl, fun h => absurd h (by decide), Nat.le_refl _⟩
  | append_singleton m c ih =>
    rw [capN_snoc, natOf_snoc]
    obtain ⟨h1, h2, h3⟩ := ih fun c hc => h c (List.mem_append_left _ hc)
    have h4 := h c (List.mem_append_right _ (List.mem_singleton.2 rfl))
    unfold isDig at h4
    by_cases h5 : natOf m < 10000
    · rw [h1 h5, if_pos h5]
      omega
    · have := h2 (by omega)
      rw [if_neg (by omega)]
      omega
end Go.Proofs.YtdfodfflkmcgpaaGreatDoor
/- Where a decimal is too great or too small for the form; how two words stand to each other; a whole number as a word. Of whole numbers alone. -/
namespace Go.Proofs.YtdfodfflkmcgpaaGreatDoor
open Ieee
namespace Parse
open Near
/-- from ten to the q on all is read as the infinite rung, or above. -/
theorem over {t L K q N r : Nat} {P : Int} (hv : 2 ^ (t + K) ≤ 10 ^ q * 2 ^ L) (hN : 1 ≤ N) (hP : (q : Int) ≤ P) (h : RN (2 ^ t) (N * 10 ^ P.toNat * 2 ^ L) (10 ^ (-P).toNat) r) : (K + 1) * 2 ^ t ≤ r := by
  have h0 : (-P).toNat = 0 := by omega
  rw [h0, Nat.pow_zero] at h
  refine RN.mono (Nat.two_pow_pos t) (by omega) (by omega) (RN.self (Nat.two_pow_pos t) ((K + 1) * 2 ^ t)) h ?_
  have hval := val_at (h := 2 ^ t) (k := K) (j := 0) (Nat.two_pow_pos t)
  simp only [Nat.add_zero] at hval
  rw [← Nat.pow_add] at hval
  rw [hval, Nat.mul_one, Nat.mul_one]
  refine Nat.le_trans hv (Nat.mul_le_mul_right _ ?_)
  refine Nat.le_trans (Nat.pow_le_pow_right (by omega) (by omega : q ≤ P.toNat)) ?_
  exact Nat.le_mul_of_pos_left _ hN
/-- below ten to the -q all of nineteen digits is read as nought. -/
theorem under {t L q N : Nat} {P : Int} (ht : 1 ≤ t) (hv : 2 * 10 ^ 19 * 2 ^ L + 1 ≤ 10 ^ q) (hN : N ≤ 10 ^ 19) (hP : P ≤ -(q : Int)) : RN (2 ^ t) (N * 10 ^ P.toNat * 2 ^ L) (10 ^ (-P).toNat) 0 := by
  have h0 : P.toNat = 0 := by omega
  rw [h0, Nat.pow_zero, Nat.mul_one]
  refine ⟨.inl rfl, .inl ?_⟩
  have hm : mid (2 ^ t) 0 = 1 := by
    have h1 : 1 < 2 ^ t := Nat.lt_of_lt_of_le (by decide : 1 < 2 ^ 1) (pow_le ht)
    unfold mid
    rw [val_lt (by omega), val_lt h1]
  rw [hm, Nat.one_mul]
  have h1 : 2 * (N * 2 ^ L) ≤ 2 * 10 ^ 19 * 2 ^ L := by
    rw [← Nat.mul_assoc]
    exact Nat.mul_le_mul_right _ (Nat.mul_le_mul_left 2 hN)
  have h2 : 10 ^ q ≤ 10 ^ (-P).toNat := Nat.pow_le_pow_right (by omega) (by omega)
  omega
theorem over64 {N r : Nat} {P : Int} (hN : 1 ≤ N) (hP : 311 ≤ P) (h : RN (2 ^ 52) (N * 10 ^ P.toNat * 2 ^ 1074) (10 ^ (-P).toNat) r) : 2047 * 2 ^ 52 ≤ r := over (K := 2046) (q := 311) (by decide +kernel) hN hP h
theorem over32 {N r : Nat} {P : Int} (hN : 1 ≤ N) (hP : 41 ≤ P) (h : RN (2 ^ 23) (N * 10 ^ P.toNat * 2 ^ 149) (10 ^ (-P).toNat) r) : 255 * 2 ^ 23 ≤ r := over (K := 254) (q := 41) (by decide +kernel) hN hP h
theorem under64 {N : Nat} {P : Int} (hN : N ≤ 10 ^ 19) (hP : P ≤ -346) : RN (2 ^ 52) (N * 10 ^ P.toNat * 2 ^ 1074) (10 ^ (-P).toNat) 0 := under (t := 52) (L := 1074) (q := 346) (by decide) (by decide +kernel) hN hP
theorem under32 {N : Nat} {P : Int} (hN : N ≤ 10 ^ 19) (hP : P ≤ -71) : RN (2 ^ 23) (N * 10 ^ P.toNat * 2 ^ 149) (10 ^ (-P).toNat) 0 := under (t := 23) (L := 149) (q := 71) (by decide) (by decide +kernel) hN hP
/-- what is no more than a rung's value is read as no more. -/
theorem le_of_val {t n d r s : Nat} (hd : 0 < d) (h : RN (2 ^ t) n d r) (hv : n ≤ val (2 ^ t) s * d) : r ≤ s := RN.mono (Nat.two_pow_pos t) hd (by omega) h (RN.self (Nat.two_pow_pos t) s) (by omega)
theorem ge_of_val {t n d r s : Nat} (hd : 0 < d) (h : RN (2 ^ t) n d r) (hv : val (2 ^ t) s * d ≤ n) : s ≤ r := RN.mono (Nat.two_pow_pos t) (by omega) hd (RN.self (Nat.two_pow_pos t) s) h (by omega)
end Parse
namespace Near
theorem signed_false (m k : Nat) : signed false m k = ((m * 2 ^ k : Nat) : Int) := by
  unfold signed; rw [if_neg (by simp), Nat.shiftLeft_eq]
theorem signed_true (m k : Nat) : signed true m k = -((m * 2 ^ k : Nat) : Int) := by
  unfold signed; rw [if_pos rfl, Nat.shiftLeft_eq]
theorem cmp_gt (x y : Int) : (some (compare x y) == some Ordering.gt) = decide (y < x) := by
  show (some (compareOfLessAndEq x y) == some Ordering.gt) = _
  unfold compareOfLessAndEq
  by_cases h : x < y
  · rw [if_pos h, decide_eq_false (by omega)]; rfl
  · by_cases h2 : x = y
    · rw [if_neg h, if_pos h2, decide_eq_false (by omega)]; rfl
    · rw [if_neg h, if_neg h2, decide_eq_true (by omega)]; rfl
theorem cmp_lt (x y : Int) : (some (compare x y) == some Ordering.lt) = decide (x < y) := by
  show (some (compareOfLessAndEq x y) == some Ordering.lt) = _
  unfold compareOfLessAndEq
  by_cases h : x < y
  · rw [if_pos h, decide_eq_true h]; rfl
  · by_cases h2 : x = y
    · rw [if_neg h, if_pos h2, decide_eq_false (by omega)]; rfl
    · rw [if_neg h, if_neg h2, decide_eq_false (by omega)]; rfl
theorem order_word (f : Format) (hi : f.infRung < f.signWeight) (s t : Bool) {a b : Nat} (ha : a < f.infRung) (hb : b < f.infRung) :
    ∃ x y c : Nat, 0 < c ∧ x * c = val f.binade a ∧ y * c = val f.binade b ∧ f.order (f.word s a) (f.word t b) = some (compare (if s then -(x : Int) else x) (if t then -(y : Int) else y)) := by
  obtain ⟨m, i, h1, h2, -⟩ := read_word f s ha hi
  obtain ⟨n, j, h4, h5, -⟩ := read_word f t hb hi
  refine ⟨m * 2 ^ (i - min i j), n * 2 ^ (j - min i j), 2 ^ min i j, Nat.two_pow_pos _, ?_, ?_, ?_⟩
  · rw [← h2, Nat.mul_assoc, ← Nat.pow_add]; congr 2; omega
  · rw [← h5, Nat.mul_assoc, ← Nat.pow_add]; congr 2; omega
  unfold Format.order
  rw [h1, h4]
  show some (compare (signed s m _) (signed t n _)) = _
  have e1 : (f.leastPlace + (i : Int) - min (f.leastPlace + (i : Int)) (f.leastPlace + (j : Int))).toNat = i - min i j := by omega
  have e2 : (f.leastPlace + (j : Int) - min (f.leastPlace + (i : Int)) (f.leastPlace + (j : Int))).toNat = j - min i j := by omega
  rw [e1, e2]
  unfold signed
  rw [Nat.shiftLeft_eq, Nat.shiftLeft_eq]
theorem order_gt (f : Format) (hi : f.infRung < f.signWeight) (s : Bool) {a b : Nat} (ha : a < f.infRung) (hb : b < f.infRung) :
    (f.order (f.word s a) (f.word false b) == some Ordering.gt) = (!s && decide (val f.binade b < val f.binade a)) := by
  obtain ⟨x, y, c, hc, hx, hy, h⟩ := order_word f hi s false ha hb
  rw [h, cmp_gt, ← hx, ← hy]
  cases s
  · simp [Nat.mul_lt_mul_right hc]
  · rw [decide_eq_false (by simp)]; rfl
theorem order_lt (f : Format) (hi : f.infRung < f.signWeight) (s : Bool) {a b : Nat} (ha : a < f.infRung) (hb : b < f.infRung) :
    (f.order (f.word s a) (f.word true b) == some Ordering.lt) = (s && decide (val f.binade b < val f.binade a)) := by
  obtain ⟨x, y, c, hc, hx, hy, h⟩ := order_word f hi s true ha hb
  rw [h, cmp_lt, ← hx, ← hy]
  cases s
  · rw [decide_eq_false (by simp)]; rfl
  · simp [Nat.mul_lt_mul_right hc]
/-- a whole number of at most the significand's digits, as a word. -/
theorem nat_word (f : Format) (neg : Bool) {m : Nat} (h : m ≠ 0) (hm : m < 2 ^ (f.fractionBits + 1)) (hp : f.leastPlace ≤ 0) :
    f.nearest neg m 0 = f.word neg (min (rung f m 0) f.infRung) ∧ val f.binade (rung f m 0) = m * 2 ^ (-f.leastPlace).toNat := by
  refine ⟨nearest_eq f neg 0 h, ?_⟩
  have := rung_exact f (mag := m) 0 h (by have := (Nat.log2_lt h).2 hm; omega) hp
  rwa [Int.zero_sub] at this
end Near
end Go.Proofs.YtdfodfflkmcgpaaGreatDoor
/- The shortest digits: they lie in the interval of what is read as the number, and no shorter ones do. Of whole numbers alone. -/
namespace Go.Proofs.YtdfodfflkmcgpaaGreatDoor
set_option linter.unusedVariables false
namespace Short
open Near
/-- a number cut, with its rest told, in quarters. -/
def quart (A D : Nat) : Nat := 2 * (A / D) + (A % D != 0).toNat
/-- the least and the greatest whole number between the ends. -/
def dmin (A D o : Nat) : Nat := (quart A D + o + 3) / 4
def dmax (A D o : Nat) : Nat := (quart A D - o) / 4
theorem quart_le {A D : Nat} (hD : 0 < D) (b : Nat) : (quart A D ≤ 2 * b ↔ A ≤ b * D) ∧ (quart A D < 2 * b ↔ A < b * D) ∧ (2 * b ≤ quart A D ↔ b * D ≤ A) ∧ (2 * b < quart A D ↔ b * D < A) := by
  unfold quart
  have hm := Nat.div_add_mod A D
  have hr := Nat.mod_lt A hD
  generalize A / D = q at *
  generalize A % D = r at *
  subst hm
  have e : D * q = q * D := Nat.mul_comm _ _
  rw [e]
  rcases Nat.lt_trichotomy q b with h1 | h1 | h1
  · have : (q + 1) * D ≤ b * D := Nat.mul_le_mul_right D h1
    rw [Nat.succ_mul] at this
    have h2 : (r != 0).toNat ≤ 1 := Bool.toNat_le _
    omega
  · subst h1
    by_cases h0 : r = 0
    · subst h0; simp
    · have : (r != 0) = true := by simp [h0]
      rw [this, Bool.toNat_true]
      omega
  · have : (b + 1) * D ≤ q * D := Nat.mul_le_mul_right D h1
    rw [Nat.succ_mul] at this
    omega
theorem dmin_le {A D o d : Nat} (hD : 0 < D) (ho : o ≤ 1) : dmin A D o ≤ d ↔ (A < 2 * d * D ∨ (A = 2 * d * D ∧ o = 0)) := by
  obtain ⟨h1, h2, h3, h4⟩ := quart_le (A := A) hD (2 * d)
  unfold dmin
  rcases Nat.eq_zero_or_pos o with rfl | hp
  · omega
  · obtain rfl : o = 1 := by omega
    omega
theorem le_dmax {A D o d : Nat} (hD : 0 < D) (ho : o ≤ 1) (hA : 0 < A) : d ≤ dmax A D o ↔ (2 * d * D < A ∨ (2 * d * D = A ∧ o = 0)) := by
  obtain ⟨h1, h2, h3, h4⟩ := quart_le (A := A) hD (2 * d)
  have h5 := (quart_le (A := A) hD 0).2.2.2
  rw [Nat.zero_mul] at h5
  have h6 := h5.2 hA
  unfold dmax
  rcases Nat.eq_zero_or_pos o with rfl | hp
  · omega
  · obtain rfl : o = 1 := by omega
    omega
/-- what is read as rung r: the whole numbers between the ends. -/
theorem iff {h r A1 A2 D c e : Nat} (hD : 0 < D) (hc : 0 < c) (he : 0 < e) (hr : r ≠ 0) (h1 : A1 * c = D * (mid h (r - 1) * e)) (h2 : A2 * c = D * (mid h r * e)) (hA : 0 < A2) (d : Nat) :
    RN h (d * c) e r ↔ (dmin A1 D (r % 2) ≤ d ∧ d ≤ dmax A2 D (r % 2)) := by
  have ho : r % 2 ≤ 1 := by omega
  rw [dmin_le hD ho, le_dmax hD ho hA]
  have e1 : 2 * d * D * c = D * (2 * (d * c)) := by grind
  have k1 : A1 < 2 * d * D ↔ mid h (r - 1) * e < 2 * (d * c) := by
    rw [← Nat.mul_lt_mul_right hc, h1, e1, Nat.mul_lt_mul_left hD]
  have k2 : A1 = 2 * d * D ↔ mid h (r - 1) * e = 2 * (d * c) := by
    rw [← Nat.mul_left_inj (Nat.pos_iff_ne_zero.1 hc), h1, e1, Nat.mul_right_inj (Nat.pos_iff_ne_zero.1 hD)]
  have k3 : 2 * d * D < A2 ↔ 2 * (d * c) < mid h r * e := by
    rw [← Nat.mul_lt_mul_right hc, h2, e1, Nat.mul_lt_mul_left hD]
  have k4 : 2 * d * D = A2 ↔ 2 * (d * c) = mid h r * e := by
    rw [← Nat.mul_left_inj (Nat.pos_iff_ne_zero.1 hc), h2, e1, Nat.mul_right_inj (Nat.pos_iff_ne_zero.1 hD)]
  rw [k1, k2, k3, k4]
  unfold RN
  constructor
  · rintro ⟨a, b⟩
    refine ⟨?_, b⟩
    rcases a with a | a
    · exact absurd a hr
    · exact a
  · rintro ⟨a, b⟩
    exact ⟨.inr a, b⟩
/-- the digits that are chosen. -/
def pick (A1 A2 A3 D o : Nat) : Nat × Nat :=
  if dmin A1 D o ≤ dmax A2 D o / 10 * 10 then (dmax A2 D o / 10, 1)
  else (if dmin A1 D o < dmax A2 D o then Parse.roundU (quart A3 D) else dmin A1 D o, 0)
/-- the ends lie about the number, far enough, and not too far. -/
structure Ends (A1 A2 A3 D o : Nat) : Prop where
  hD : 0 < D
  ho : o ≤ 1
  low : A1 < A3
  up : A3 < A2
  wide : A1 + 2 * D < A2 ∨ A3 % (2 * D) = 0
  near : A2 < A1 + 20 * D
  half : A2 + A1 = 2 * A3 ∨ (A2 + 2 * A1 = 3 * A3 ∧ o = 0 ∧ A1 + 2 * D < A2)
theorem Ends.some {A1 A2 A3 D o : Nat} (E : Ends A1 A2 A3 D o) : dmin A1 D o ≤ dmax A2 D o := by
  have hD := E.hD
  rw [le_dmax E.hD E.ho (by have := E.up; omega)]
  rcases E.wide with h | h
  · -- the whole number just above the lower end
    have hb := (dmin_le (A := A1) E.hD E.ho (d := A1 / (2 * D) + 1)).2 (.inl (by
      have := Nat.div_add_mod A1 (2 * D)
      have := Nat.mod_lt A1 (show 0 < 2 * D by omega)
      have e : 2 * (A1 / (2 * D) + 1) * D = 2 * D * (A1 / (2 * D)) + 2 * D := by grind
      omega))
    left
    have e1 : 2 * dmin A1 D o * D ≤ 2 * (A1 / (2 * D) + 1) * D := Nat.mul_le_mul_right D (Nat.mul_le_mul_left 2 hb)
    have e : 2 * (A1 / (2 * D) + 1) * D = 2 * D * (A1 / (2 * D)) + 2 * D := by grind
    have := Nat.div_add_mod A1 (2 * D)
    omega
  · have hb := (dmin_le (A := A1) E.hD E.ho (d := A3 / (2 * D))).2 (.inl (by
      have := Nat.div_add_mod A3 (2 * D)
      have e : 2 * (A3 / (2 * D)) * D = 2 * D * (A3 / (2 * D)) := by grind
      have := E.low
      omega))
    left
    have e1 : 2 * dmin A1 D o * D ≤ 2 * (A3 / (2 * D)) * D := Nat.mul_le_mul_right D (Nat.mul_le_mul_left 2 hb)
    have e : 2 * (A3 / (2 * D)) * D = 2 * D * (A3 / (2 * D)) := by grind
    have := Nat.div_add_mod A3 (2 * D)
    have := E.up
    omega
theorem Ends.mid {A1 A2 A3 D o : Nat} (E : Ends A1 A2 A3 D o) (hlt : dmin A1 D o < dmax A2 D o) : dmin A1 D o ≤ Parse.roundU (quart A3 D) ∧ Parse.roundU (quart A3 D) ≤ dmax A2 D o := by
  have hD := E.hD
  have hE := Parse.roundU_sticky (A := A3) hD
  have hlow := E.low
  have hup := E.up
  obtain ⟨N, hN⟩ : ∃ N, N = Parse.roundU (quart A3 D) := ⟨_, rfl⟩
  have hq : Parse.roundU (2 * (A3 / D) + (A3 % D != 0).toNat) = N := hN.symm
  rw [hq] at hE
  rw [← hN]
  obtain ⟨a, b⟩ := hE
  have e1 : 2 * N * (D * 4) = 4 * (2 * N * D) := by grind
  rw [e1] at a b
  have a' : 2 * N * D ≤ A3 + D := by omega
  have b' : A3 ≤ 2 * N * D + D := by omega
  rw [dmin_le hD E.ho, le_dmax hD E.ho (by omega)]
  rcases E.half with hh | ⟨hh, ho, hw⟩
  · rcases E.wide with hw | hw
    · constructor
      · left; omega
      · left; omega
    · -- the number is whole
      have hm := Nat.div_add_mod A3 (2 * D)
      rw [hw, Nat.add_zero] at hm
      have h5 : 2 * N * D = 2 * D * N := by grind
      have h6 : N = A3 / (2 * D) := by
        rw [h5] at a' b'
        have c1 : 2 * D * N < 2 * D * (A3 / (2 * D) + 1) := by rw [Nat.mul_succ]; omega
        have c2 : 2 * D * (A3 / (2 * D)) < 2 * D * (N + 1) := by rw [Nat.mul_succ]; omega
        have c3 := Nat.lt_of_mul_lt_mul_left c1
        have c4 := Nat.lt_of_mul_lt_mul_left c2
        omega
      rw [h5, h6, hm]
      exact ⟨.inl hlow, .inl hup⟩
  · subst ho
    constructor
    · rcases Nat.lt_or_ge (2 * N * D) A1 with h7 | h7
      · exfalso
        -- two whole numbers lie between, above N
        have h8 : ¬ dmin A1 D 0 ≤ N := by rw [dmin_le hD (by omega)]; omega
        have h9 : N + 2 ≤ dmax A2 D 0 := by omega
        rw [le_dmax hD (by omega) (by omega)] at h9
        have e2 : 2 * (N + 2) * D = 2 * N * D + 4 * D := by grind
        omega
      · omega
    · omega
/-- the digits chosen lie between the ends. -/
theorem Ends.pick_in {A1 A2 A3 D o : Nat} (E : Ends A1 A2 A3 D o) : dmin A1 D o ≤ (pick A1 A2 A3 D o).1 * 10 ^ (pick A1 A2 A3 D o).2 ∧ (pick A1 A2 A3 D o).1 * 10 ^ (pick A1 A2 A3 D o).2 ≤ dmax A2 D o := by
  unfold pick
  by_cases h1 : dmin A1 D o ≤ dmax A2 D o / 10 * 10
  · rw [if_pos h1]
    refine ⟨h1, ?_⟩
    show dmax A2 D o / 10 * 10 ^ 1 ≤ _
    omega
  · rw [if_neg h1]
    show _ ≤ _ * 10 ^ 0 ∧ _ * 10 ^ 0 ≤ _
    rw [Nat.pow_zero, Nat.mul_one]
    by_cases h2 : dmin A1 D o < dmax A2 D o
    · rw [if_pos h2]; exact E.mid h2
    · rw [if_neg h2]; exact ⟨Nat.le_refl _, E.some⟩
/-- of tens between the ends there is one at most, and if there is one it is chosen. -/
theorem Ends.tens {A1 A2 A3 D o : Nat} (E : Ends A1 A2 A3 D o) {x : Nat} (h0 : dmin A1 D o ≤ 10 * x) (h1 : 10 * x ≤ dmax A2 D o) : pick A1 A2 A3 D o = (x, 1) := by
  have hD := E.hD
  have hA : 0 < A2 := by have := E.up; omega
  have hx : dmax A2 D o / 10 = x := by
    have h2 : ¬ 10 * x + 10 ≤ dmax A2 D o := by
      rw [le_dmax hD E.ho hA]
      rw [dmin_le hD E.ho] at h0
      have e : 2 * (10 * x + 10) * D = 2 * (10 * x) * D + 20 * D := by grind
      have := E.near
      omega
    omega
  unfold pick
  rw [hx, if_pos (by omega)]
end Short
end Go.Proofs.YtdfodfflkmcgpaaGreatDoor
/- The short roads of reading: a whole number times or by a power of ten in the form's own product and quotient. Of whole numbers alone. -/
namespace Go.Proofs.YtdfodfflkmcgpaaGreatDoor
open Ieee
set_option linter.unusedVariables false
namespace Parse
open Near
/-- the rung of a whole number. -/
def natR (f : Format) (m : Nat) : Nat := Near.rung f m 0
/-- what the short roads ask of a form. -/
structure Exact (f : Format) (t L q K : Nat) : Prop where
  bin : f.binade = 2 ^ t
  least : f.leastPlace = -(L : Int)
  bits : f.fractionBits = t
  inf : f.infRung < f.signWeight
  pos : 1 ≤ t
  low : (K + 1) * 2 ^ t < f.infRung
  room : 2 ^ (t + 1) * 10 ^ q * 2 ^ L ≤ 2 ^ (t + K)
  tab : ∀ k, k ≤ q → val (2 ^ t) (natR f (10 ^ k)) = 10 ^ k * 2 ^ L ∧ natR f (10 ^ k) < f.infRung ∧ natR f (10 ^ k) ≠ 0
theorem Exact.bound {f : Format} {t L q K : Nat} (E : Exact f t L q K) {n d r : Nat} (hd : 0 < d) (hn : n ≤ 2 ^ (t + 1) * 10 ^ q * 2 ^ L * d) (h : RN (2 ^ t) n d r) : r < f.infRung := by
  refine Nat.lt_of_le_of_lt (le_of_val (s := (K + 1) * 2 ^ t) hd h ?_) E.low
  have hval := val_at (h := 2 ^ t) (k := K) (j := 0) (Nat.two_pow_pos t)
  simp only [Nat.add_zero] at hval
  rw [hval, ← Nat.pow_add]
  exact Nat.le_trans hn (Nat.mul_le_mul_right _ E.room)
theorem Exact.nat {f : Format} {t L q K : Nat} (E : Exact f t L q K) {m : Nat} (h : m ≠ 0) (hm : m < 2 ^ (t + 1)) :
    val (2 ^ t) (natR f m) = m * 2 ^ L ∧ natR f m < f.infRung ∧ natR f m ≠ 0 ∧ ∀ neg, f.nearest neg m 0 = f.word neg (natR f m) := by
  have h0 := nat_word f true h (by rw [E.bits]; exact hm) (by rw [E.least]; omega)
  rw [E.bin, E.least, show (-(-(L : Int))).toNat = L by omega] at h0
  have hv : val (2 ^ t) (natR f m) = m * 2 ^ L := h0.2
  have hlt : natR f m < f.infRung := by
    refine E.bound (d := 1) (by omega) (n := m * 2 ^ L) ?_ (by rw [← hv]; exact RN.self (Nat.two_pow_pos t) _)
    rw [Nat.mul_one]
    refine Nat.mul_le_mul_right _ (Nat.le_trans (Nat.le_of_lt hm) ?_)
    exact Nat.le_mul_of_pos_right _ (Nat.pow_pos (by omega))
  refine ⟨hv, hlt, fun h1 => ?_, fun neg => ?_⟩
  · rw [h1, val_lt (Nat.two_pow_pos t)] at hv
    have := Nat.mul_ne_zero h (Nat.pos_iff_ne_zero.1 (Nat.two_pow_pos L))
    omega
  · have h2 := nearest_eq f neg 0 h
    rw [h2]
    congr 1
    exact Nat.min_eq_left (Nat.le_of_lt hlt)
theorem Exact.mul {f : Format} {t L q K : Nat} (E : Exact f t L q K) {m k : Nat} (h : m ≠ 0) (hm : m < 2 ^ (t + 1)) (hk : k ≤ q) (neg : Bool) :
    ∃ r, f.mul (f.word neg (natR f m)) (f.word false (natR f (10 ^ k))) = some (f.word neg r) ∧ r < f.infRung ∧ r ≠ 0 ∧ RN (2 ^ t) (m * 10 ^ k * 2 ^ L) 1 r ∧ (m * 10 ^ k < 2 ^ (t + 1) → r = natR f (m * 10 ^ k)) := by
  obtain ⟨v1, l1, z1, -⟩ := E.nat h hm
  obtain ⟨v2, l2, z2⟩ := E.tab k hk
  obtain ⟨r, hr, hRN⟩ := mul_RN f (by rw [E.bits]; exact E.pos) E.inf (by rw [E.least]; omega) neg false l1 l2 z1 z2
  rw [E.bin, E.least, show (-(-(L : Int))).toNat = L by omega, v1, v2] at hRN
  have hR : RN (2 ^ t) (m * 10 ^ k * 2 ^ L) 1 r := RN.of_same hRN (Nat.two_pow_pos L) (by omega) (by grind)
  have hp : 0 < 10 ^ k := Nat.pow_pos (by omega)
  have hlt : r < f.infRung := by
    refine E.bound (d := 1) (by omega) ?_ hR
    rw [Nat.mul_one]
    exact Nat.mul_le_mul_right _ (Nat.mul_le_mul (Nat.le_of_lt hm) (Nat.pow_le_pow_right (by omega) hk))
  have hge : natR f m ≤ r := by
    refine ge_of_val (d := 1) (by omega) hR ?_
    rw [v1, Nat.mul_one]
    exact Nat.mul_le_mul_right _ (Nat.le_mul_of_pos_right _ hp)
  refine ⟨r, ?_, hlt, by omega, hR, fun hlt2 => ?_⟩
  · rw [hr, Bool.xor_false, Nat.min_eq_left (Nat.le_of_lt hlt)]
  · have h3 := E.nat (m := m * 10 ^ k) (Nat.mul_ne_zero h (by omega)) hlt2
    refine RN.unique (Nat.two_pow_pos t) (by omega) hR ?_
    rw [← h3.1]
    exact RN.self (Nat.two_pow_pos t) _
theorem Exact.div {f : Format} {t L q K : Nat} (E : Exact f t L q K) {m k : Nat} (h : m ≠ 0) (hm : m < 2 ^ (t + 1)) (hk : k ≤ q) (neg : Bool) :
    ∃ r, f.div (f.word neg (natR f m)) (f.word false (natR f (10 ^ k))) = some (f.word neg r) ∧ r < f.infRung ∧ RN (2 ^ t) (m * 2 ^ L) (10 ^ k) r := by
  obtain ⟨v1, l1, z1, -⟩ := E.nat h hm
  obtain ⟨v2, l2, z2⟩ := E.tab k hk
  obtain ⟨r, hr, hRN⟩ := div_RN f (by rw [E.bits]; exact E.pos) E.inf (by rw [E.least]; omega) neg false l1 l2 z1 z2
  rw [E.bin, E.least, show (-(-(L : Int))).toNat = L by omega, v1, v2] at hRN
  have hp : 0 < 10 ^ k := Nat.pow_pos (by omega)
  have hR : RN (2 ^ t) (m * 2 ^ L) (10 ^ k) r := RN.of_same hRN (Nat.mul_pos hp (Nat.two_pow_pos L)) hp (by grind)
  have hlt : r < f.infRung := by
    refine E.bound hp ?_ hR
    have a1 : m * 2 ^ L ≤ 2 ^ (t + 1) * 2 ^ L := Nat.mul_le_mul_right _ (Nat.le_of_lt hm)
    have a2 : 2 ^ (t + 1) * 2 ^ L ≤ 2 ^ (t + 1) * 10 ^ q * 2 ^ L := Nat.mul_le_mul_right _ (Nat.le_mul_of_pos_right _ (Nat.pow_pos (by omega)))
    have a3 : 2 ^ (t + 1) * 10 ^ q * 2 ^ L ≤ 2 ^ (t + 1) * 10 ^ q * 2 ^ L * 10 ^ k := Nat.le_mul_of_pos_right _ hp
    omega
  refine ⟨r, ?_, hlt, hR⟩
  rw [hr, Bool.xor_false, Nat.min_eq_left (Nat.le_of_lt hlt)]
/-- the product is too great: what it was is no number that the short road takes. -/
theorem Exact.cmp {f : Format} {t L q K : Nat} (E : Exact f t L q K) {m k r c : Nat} (h : m ≠ 0) (hc : c + 1 < 2 ^ (t + 1)) (hc0 : c ≠ 0) (hR : RN (2 ^ t) (m * 10 ^ k * 2 ^ L) 1 r) (hr : r < f.infRung) (neg : Bool) :
    ((f.order (f.word neg r) (f.word false (natR f c)) == some Ordering.gt) = false) → ((f.order (f.word neg r) (f.word true (natR f c)) == some Ordering.lt) = false) → m * 10 ^ k < 2 ^ (t + 1) := by
  obtain ⟨v1, l1, z1, -⟩ := E.nat hc0 (by omega)
  rw [order_gt f E.inf neg hr l1, order_lt f E.inf neg hr l1]
  intro h1 h2
  have h3 : ¬ val f.binade (natR f c) < val f.binade r := by
    intro h4
    rw [decide_eq_true h4] at h1 h2
    cases neg
    · cases h1
    · cases h2
  rw [E.bin] at h3
  rcases Nat.lt_or_ge (m * 10 ^ k) (2 ^ (t + 1)) with h5 | h5
  · exact h5
  · exfalso
    have hp := Nat.two_pow_pos (t + 1)
    obtain ⟨w1, w2, w3, -⟩ := E.nat (m := 2 ^ (t + 1) - 1) (by omega) (by omega)
    have g1 : natR f (2 ^ (t + 1) - 1) ≤ r := by
      refine ge_of_val (d := 1) (by omega) hR ?_
      rw [w1, Nat.mul_one]
      exact Nat.mul_le_mul_right _ (by omega)
    have g2 : natR f c < natR f (2 ^ (t + 1) - 1) := by
      rcases Nat.lt_or_ge (natR f c) (natR f (2 ^ (t + 1) - 1)) with h7 | h7
      · exact h7
      · have := val_mono (Nat.two_pow_pos t) h7
        rw [v1, w1] at this
        have := Nat.le_of_mul_le_mul_right this (Nat.two_pow_pos L)
        omega
    have h6 : natR f c < r := by omega
    exact h3 (val_mono_lt (Nat.two_pow_pos t) h6)
theorem E64 : Exact double 52 1074 22 2000 where
  bin := rfl
  least := by decide +kernel
  bits := rfl
  inf := by decide +kernel
  pos := by decide
  low := by decide +kernel
  room := by decide +kernel
  tab := fun k hk => by
    have h : ((List.range 23).all fun k => val (2 ^ 52) (natR double (10 ^ k)) == 10 ^ k * 2 ^ 1074 && decide (natR double (10 ^ k) < double.infRung) && decide (natR double (10 ^ k) ≠ 0)) = true := by decide +kernel
    have := List.all_eq_true.1 h k (List.mem_range.2 (by omega))
    simp only [Bool.and_eq_true, beq_iff_eq, decide_eq_true_eq] at this
    exact ⟨this.1.1, this.1.2, this.2⟩
theorem E32 : Exact single 23 149 10 220 where
  bin := rfl
  least := by decide +kernel
  bits := rfl
  inf := by decide +kernel
  pos := by decide
  low := by decide +kernel
  room := by decide +kernel
  tab := fun k hk => by
    have h : ((List.range 11).all fun k => val (2 ^ 23) (natR single (10 ^ k)) == 10 ^ k * 2 ^ 149 && decide (natR single (10 ^ k) < single.infRung) && decide (natR single (10 ^ k) ≠ 0)) = true := by decide +kernel
    have := List.all_eq_true.1 h k (List.mem_range.2 (by omega))
    simp only [Bool.and_eq_true, beq_iff_eq, decide_eq_true_eq] at this
    exact ⟨this.1.1, this.1.2, this.2⟩
end Parse
end Go.Proofs.YtdfodfflkmcgpaaGreatDoor
/- The shortest digits: the ends of what is read as the number, scaled by the table's power of ten. Of whole numbers alone. -/
namespace Go.Proofs.YtdfodfflkmcgpaaGreatDoor
set_option linter.unusedVariables false
namespace Short
open Near Farey
def okU (u q : Int) : Bool := (decide (u = 0) || decide (10 ^ q.toNat * 2 ^ (-u).toNat < 2 ^ u.toNat * 10 ^ (-q).toNat)) && decide (2 ^ u.toNat * 10 ^ (-q).toNat < 10 * (10 ^ q.toNat * 2 ^ (-u).toNat)) && decide (u + lp (-q) ≤ 3) && decide (-1 ≤ u + lp (-q)) && decide (-345 ≤ -q) && decide (-q ≤ 325) && (decide (u ≠ 0) || decide (q = 0))
def okS (u q : Int) : Bool := decide (4 * (10 ^ q.toNat * 2 ^ (-u).toNat) < 3 * (2 ^ u.toNat * 10 ^ (-q).toNat)) && decide (3 * (2 ^ u.toNat * 10 ^ (-q).toNat) < 40 * (10 ^ q.toNat * 2 ^ (-u).toNat)) && decide (u + lp (-q) ≤ 3) && decide (-1 ≤ u + lp (-q)) && decide (-345 ≤ -q) && decide (-q ≤ 325)
def qU (u : Int) : Int := u * 78913 / 262144
def qS (u : Int) : Int := (u * 631305 - 261663) / 2097152
theorem all_ok : ((List.range 2046).all fun i => okU ((i : Int) - 1074) (qU ((i : Int) - 1074)) && okS ((i : Int) - 1074) (qS ((i : Int) - 1074))) = true := by decide +kernel
theorem ok_at {u : Int} (h0 : -1074 ≤ u) (h1 : u ≤ 971) : okU u (qU u) = true ∧ okS u (qS u) = true := by
  have h := List.all_eq_true.1 all_ok (u + 1074).toNat (List.mem_range.2 (by omega))
  rwa [show (((u + 1074).toNat : Nat) : Int) - 1074 = u from by omega, Bool.and_eq_true] at h
/-- the rung's upper end. -/
theorem mid_up {h k m : Nat} (hm : m < 2 * h) (hk : k = 0 ∨ h ≤ m) : mid h (k * h + m) = (2 * m + 1) * 2 ^ k := by
  unfold mid
  rcases Nat.lt_or_ge m h with h1 | h1
  · have h0 : k = 0 := by omega
    subst h0
    rw [Nat.zero_mul, Nat.zero_add, val_succ_lt h1, val_lt h1, Nat.pow_zero]; omega
  · have e : k * h + m = (k + 1) * h + (m - h) := by rw [Nat.succ_mul]; omega
    rw [e, val_succ_at (by omega), val_at (by omega)]
    have e2 : h + (m - h) = m := by omega
    rw [e2]; grind
theorem val_of {h k m : Nat} (hm : m < 2 * h) (hk : k = 0 ∨ h ≤ m) : val h (k * h + m) = m * 2 ^ k := by
  rcases Nat.lt_or_ge m h with h1 | h1
  · have h0 : k = 0 := by omega
    subst h0
    rw [Nat.zero_mul, Nat.zero_add, val_lt h1, Nat.pow_zero]; omega
  · have e : k * h + m = (k + 1) * h + (m - h) := by rw [Nat.succ_mul]; omega
    rw [e, val_at (by omega)]
    congr 1; omega
/-- and its lower one. -/
theorem mid_dn {h k m : Nat} (h0 : 0 < m) (hm : m < 2 * h) (hk : k = 0 ∨ h ≤ m) (hs : ¬ (m = h ∧ 0 < k)) : mid h (k * h + m - 1) = (2 * m - 1) * 2 ^ k := by
  have hm1 : m - 1 < 2 * h := by omega
  have hk1 : k = 0 ∨ h ≤ m - 1 := by omega
  have e : k * h + m - 1 = k * h + (m - 1) := by omega
  rw [e, mid_up hm1 hk1]
  congr 1; omega
theorem mid_skew {h k : Nat} (hh : 0 < h) : mid h ((k + 1) * h + h - 1) = (4 * h - 1) * 2 ^ k := by
  have e : (k + 1) * h + h - 1 = k * h + (2 * h - 1) := by rw [Nat.succ_mul]; omega
  rw [e, mid_up (by omega) (by omega)]
  congr 1; omega
theorem pow2 (a b : Nat) : (2 : Nat) ^ (a + b) = 2 ^ a * 2 ^ b := Nat.pow_add _ _ _
/-- the scaled numbers: one end told in the rung's own units. -/
theorem scaled {x y z : Nat} {q u : Int} {S s0 k L j : Nat} (hS : (S : Int) = s0 - u - lp (-q) - 3) (hk : (k : Int) = u + L) (hx : x = y * 2 ^ j) (hz : z * 2 ^ s0 = y * 2 ^ j * 2 ^ (k + 1)) :
    x * num (-q) * (10 ^ q.toNat * 2 ^ L) = den (-q) * (2 ^ S * 2 ^ 129) * (z * 10 ^ (-q).toNat) := by
  subst hx
  unfold num den
  rw [Int.neg_neg]
  have e1 : y * 2 ^ j * (10 ^ (-q).toNat * 2 ^ (127 - lp (-q)).toNat) * (10 ^ q.toNat * 2 ^ L) = 10 ^ (-q).toNat * 10 ^ q.toNat * (y * 2 ^ j * (2 ^ (127 - lp (-q)).toNat * 2 ^ L)) := by grind
  have e2 : 10 ^ q.toNat * 2 ^ (lp (-q) - 127).toNat * (2 ^ S * 2 ^ 129) * (z * 10 ^ (-q).toNat) = 10 ^ (-q).toNat * 10 ^ q.toNat * (z * (2 ^ (lp (-q) - 127).toNat * 2 ^ S * 2 ^ 129)) := by grind
  rw [e1, e2]
  congr 1
  have hp := Nat.two_pow_pos s0
  refine Nat.eq_of_mul_eq_mul_right hp ?_
  have e3 : z * (2 ^ (lp (-q) - 127).toNat * 2 ^ S * 2 ^ 129) * 2 ^ s0 = z * 2 ^ s0 * (2 ^ (lp (-q) - 127).toNat * 2 ^ S * 2 ^ 129) := by grind
  rw [e3, hz]
  have e4 : y * 2 ^ j * (2 ^ (127 - lp (-q)).toNat * 2 ^ L) * 2 ^ s0 = y * 2 ^ j * (2 ^ (127 - lp (-q)).toNat * 2 ^ L * 2 ^ s0) := by grind
  have e5 : y * 2 ^ j * 2 ^ (k + 1) * (2 ^ (lp (-q) - 127).toNat * 2 ^ S * 2 ^ 129) = y * 2 ^ j * (2 ^ (k + 1) * 2 ^ (lp (-q) - 127).toNat * 2 ^ S * 2 ^ 129) := by grind
  rw [e4, e5, ← Nat.pow_add, ← Nat.pow_add, ← Nat.pow_add, ← Nat.pow_add, ← Nat.pow_add]
  congr 2
  omega
theorem scale_cmp {q u : Int} {S s0 : Nat} (hS : (S : Int) = s0 - u - lp (-q) - 3) (h0 : u + lp (-q) ≤ 3) (h1 : -1 ≤ u + lp (-q)) :
    ∃ F : Nat, 0 < F ∧ 2 ^ s0 * num (-q) = 2 ^ u.toNat * 10 ^ (-q).toNat * F ∧ 2 * (den (-q) * (2 ^ S * 2 ^ 129)) = 10 ^ q.toNat * 2 ^ (-u).toNat * F := by
  refine ⟨2 ^ (s0 + (127 - lp (-q)).toNat - u.toNat), Nat.two_pow_pos _, ?_, ?_⟩
  · unfold num
    have e1 : 2 ^ s0 * (10 ^ (-q).toNat * 2 ^ (127 - lp (-q)).toNat) = 10 ^ (-q).toNat * (2 ^ s0 * 2 ^ (127 - lp (-q)).toNat) := by grind
    have e2 : 2 ^ u.toNat * 10 ^ (-q).toNat * 2 ^ (s0 + (127 - lp (-q)).toNat - u.toNat) = 10 ^ (-q).toNat * (2 ^ u.toNat * 2 ^ (s0 + (127 - lp (-q)).toNat - u.toNat)) := by grind
    rw [e1, e2, ← Nat.pow_add, ← Nat.pow_add]
    congr 2
    omega
  · unfold den
    rw [Int.neg_neg]
    have e1 : 2 * (10 ^ q.toNat * 2 ^ (lp (-q) - 127).toNat * (2 ^ S * 2 ^ 129)) = 10 ^ q.toNat * (2 ^ 1 * 2 ^ (lp (-q) - 127).toNat * 2 ^ S * 2 ^ 129) := by grind
    have e2 : 10 ^ q.toNat * 2 ^ (-u).toNat * 2 ^ (s0 + (127 - lp (-q)).toNat - u.toNat) = 10 ^ q.toNat * (2 ^ (-u).toNat * 2 ^ (s0 + (127 - lp (-q)).toNat - u.toNat)) := by grind
    rw [e1, e2, ← Nat.pow_add, ← Nat.pow_add, ← Nat.pow_add, ← Nat.pow_add]
    congr 2
    omega
theorem num_pos (p : Int) : 0 < num p := Nat.mul_pos (Nat.pow_pos (by omega)) (Nat.two_pow_pos _)
theorem two_pred {s0 : Nat} (h : 1 ≤ s0) : 2 ^ s0 = 2 * 2 ^ (s0 - 1) := by
  obtain ⟨x, rfl⟩ : ∃ x, s0 = x + 1 := ⟨s0 - 1, by omega⟩
  rw [Nat.pow_succ, Nat.add_sub_cancel]; omega
/-- the ends, where the step below is as the step above. -/
theorem ends_even {m o s0 S : Nat} {u : Int} (hm : 0 < m) (ho : o ≤ 1) (hs0 : 2 ≤ s0) (hS : (S : Int) = s0 - u - lp (-(qU u)) - 3) (h0 : -1074 ≤ u) (h1 : u ≤ 971) :
    Ends ((2 * m - 1) * 2 ^ (s0 - 1) * num (-(qU u))) ((2 * m + 1) * 2 ^ (s0 - 1) * num (-(qU u))) (m * 2 ^ s0 * num (-(qU u))) (den (-(qU u)) * (2 ^ S * 2 ^ 129)) o := by
  have hok := (ok_at h0 h1).1
  unfold okU at hok
  simp only [Bool.and_eq_true, Bool.or_eq_true, decide_eq_true_eq] at hok
  obtain ⟨⟨⟨⟨⟨⟨k1, k2⟩, k3⟩, k4⟩, -⟩, -⟩, k7⟩ := hok
  obtain ⟨F, hF, f1, f2⟩ := scale_cmp hS k3 k4
  have hN := num_pos (-(qU u))
  have hD : 0 < den (-(qU u)) * (2 ^ S * 2 ^ 129) := Nat.mul_pos (den_pos _) (Nat.mul_pos (Nat.two_pow_pos _) (Nat.two_pow_pos _))
  have hp := Nat.two_pow_pos (s0 - 1)
  have h2 := two_pred (s0 := s0) (by omega)
  obtain ⟨Y, hY⟩ : ∃ Y, Y = 2 ^ (s0 - 1) * num (-(qU u)) := ⟨_, rfl⟩
  have hYp : 0 < Y := by rw [hY]; exact Nat.mul_pos hp hN
  have a1 : (2 * m - 1) * 2 ^ (s0 - 1) * num (-(qU u)) = 2 * (m * Y) - Y := by
    rw [Nat.mul_assoc, ← hY, Nat.sub_mul, Nat.one_mul, Nat.mul_assoc]
  have a2 : (2 * m + 1) * 2 ^ (s0 - 1) * num (-(qU u)) = 2 * (m * Y) + Y := by
    rw [Nat.mul_assoc, ← hY, Nat.add_mul, Nat.one_mul, Nat.mul_assoc]
  have a3 : m * 2 ^ s0 * num (-(qU u)) = 2 * (m * Y) := by rw [h2, hY]; grind
  have a4 : 2 ^ s0 * num (-(qU u)) = 2 * Y := by rw [h2, hY, Nat.mul_assoc]
  have hge : Y ≤ m * Y := Nat.le_mul_of_pos_left _ hm
  rw [a4] at f1
  have g2 : 2 ^ u.toNat * 10 ^ (-qU u).toNat * F < 10 * (10 ^ (qU u).toNat * 2 ^ (-u).toNat) * F := Nat.mul_lt_mul_of_pos_right k2 hF
  rw [Nat.mul_assoc 10] at g2
  rw [← f1, ← f2] at g2
  refine ⟨hD, ho, ?_, ?_, ?_, ?_, .inl ?_⟩
  · rw [a1, a3]; omega
  · rw [a2, a3]; omega
  · rcases k1 with hu | k1
    · right
      subst hu
      have hq0 : qU 0 = 0 := by decide
      have hl0 : lp (-(0 : Int)) = 0 := by decide
      rw [hq0, hl0] at hS
      rw [hq0]
      have e1 : num (-(0 : Int)) = 2 ^ 127 := by decide +kernel
      have e2 : den (-(0 : Int)) = 1 := by decide +kernel
      rw [e1, e2]
      have hs3 : 2 * (1 * (2 ^ S * 2 ^ 129)) = 2 ^ s0 * 2 ^ 127 := by
        have : 2 * (1 * (2 ^ S * 2 ^ 129)) = 2 ^ 1 * 2 ^ S * 2 ^ 129 := by grind
        have hx : 1 + S + 129 = s0 + 127 := by omega
        rw [this, ← pow2, ← pow2, hx, pow2]
      rw [hs3, Nat.mul_assoc]
      exact Nat.mul_mod_left _ _
    · left
      have g1 := Nat.mul_lt_mul_of_pos_right k1 hF
      rw [← f1, ← f2] at g1
      rw [a1, a2]; omega
  · rw [a1, a2]; omega
  · rw [a1, a2, a3]; omega
/-- the ends, where the step below is half the step above. -/
theorem ends_skew {m s0 S : Nat} {u : Int} (hm : 0 < m) (hs0 : 2 ≤ s0) (hS : (S : Int) = s0 - u - lp (-(qS u)) - 3) (h0 : -1074 ≤ u) (h1 : u ≤ 971) :
    Ends ((4 * m - 1) * 2 ^ (s0 - 2) * num (-(qS u))) ((2 * m + 1) * 2 ^ (s0 - 1) * num (-(qS u))) (m * 2 ^ s0 * num (-(qS u))) (den (-(qS u)) * (2 ^ S * 2 ^ 129)) 0 := by
  have hok := (ok_at h0 h1).2
  unfold okS at hok
  simp only [Bool.and_eq_true, decide_eq_true_eq] at hok
  obtain ⟨⟨⟨⟨⟨k1, k2⟩, k3⟩, k4⟩, -⟩, -⟩ := hok
  obtain ⟨F, hF, f1, f2⟩ := scale_cmp hS k3 k4
  have hN := num_pos (-(qS u))
  have hD : 0 < den (-(qS u)) * (2 ^ S * 2 ^ 129) := Nat.mul_pos (den_pos _) (Nat.mul_pos (Nat.two_pow_pos _) (Nat.two_pow_pos _))
  have hp := Nat.two_pow_pos (s0 - 2)
  have h2 := two_pred (s0 := s0) (by omega)
  have h3 := two_pred (s0 := s0 - 1) (by omega)
  rw [show s0 - 1 - 1 = s0 - 2 by omega] at h3
  obtain ⟨Y, hY⟩ : ∃ Y, Y = 2 ^ (s0 - 2) * num (-(qS u)) := ⟨_, rfl⟩
  have hYp : 0 < Y := by rw [hY]; exact Nat.mul_pos hp hN
  have a1 : (4 * m - 1) * 2 ^ (s0 - 2) * num (-(qS u)) = 4 * (m * Y) - Y := by
    rw [Nat.mul_assoc, ← hY, Nat.sub_mul, Nat.one_mul, Nat.mul_assoc]
  have a2 : (2 * m + 1) * 2 ^ (s0 - 1) * num (-(qS u)) = 4 * (m * Y) + 2 * Y := by rw [h3, hY]; grind
  have a3 : m * 2 ^ s0 * num (-(qS u)) = 4 * (m * Y) := by rw [h2, h3, hY]; grind
  have a4 : 2 ^ s0 * num (-(qS u)) = 4 * Y := by rw [h2, h3, hY]; grind
  have hge : Y ≤ m * Y := Nat.le_mul_of_pos_left _ hm
  rw [a4] at f1
  have g1 := Nat.mul_lt_mul_of_pos_right k1 hF
  have g2 := Nat.mul_lt_mul_of_pos_right k2 hF
  rw [Nat.mul_assoc 4, Nat.mul_assoc 3, ← f1, ← f2] at g1
  rw [Nat.mul_assoc 40, Nat.mul_assoc 3, ← f1, ← f2] at g2
  refine ⟨hD, by omega, ?_, ?_, .inl ?_, ?_, .inr ⟨?_, rfl, ?_⟩⟩
  · rw [a1, a3]; omega
  · rw [a2, a3]; omega
  · rw [a1, a2]; omega
  · rw [a1, a2]; omega
  · rw [a1, a2, a3]; omega
  · rw [a1, a2]; omega
end Short
end Go.Proofs.YtdfodfflkmcgpaaGreatDoor
