/- Numerals as the library reads them. Of lists alone. -/
import Derived.Test.YtdfodfflkmcgpaaGreatDoorZR
import Derived.Lib.ParseIntB
import Derived.Lib.AtoiAll
import Derived.Lib.IndexAny
import Derived.Lib.IndexMore
import Derived.Lib.IndexBytes
import Derived.Lib.Strings
import Derived.Lib.TrimByte
import Derived.Lib.ItoaNum
namespace Go.Proofs.YtdfodfflkmcgpaaGreatDoor
open Go
set_option linter.unusedVariables false
def natFrom (a : Nat) (l : List UInt8) : Nat := l.foldl (fun a c => a * 10 + (c.toNat - 48)) a
theorem natFrom_cons (a : Nat) (c : UInt8) (l : List UInt8) : natFrom a (c :: l) = natFrom (a * 10 + (c.toNat - 48)) l := by
  unfold natFrom; rw [List.foldl_cons]
theorem natFrom_ge (l : List UInt8) : ∀ a, a ≤ natFrom a l := by
  induction l with
  | nil => exact fun a => Nat.le_refl a
  | cons c l ih =>
    intro a
    rw [natFrom_cons]
    have h := ih (a * 10 + (c.toNat - 48))
    have h2 : a ≤ a * 10 + (c.toNat - 48) := Nat.le_trans (Nat.le_mul_of_pos_right a (by decide)) (Nat.le_add_right _ _)
    exact Nat.le_trans h2 h
theorem natOf_from (l : List UInt8) : natOf l = natFrom 0 l := rfl
theorem parse_digits {l : List UInt8} (h : ∀ c ∈ l, isDig c) : ∀ acc, acc < 18446744073709551616 → Lib.parseUint10 acc l = if natFrom acc l < 18446744073709551616 then .ok (natFrom acc l) else .range := by
  induction l with
  | nil => intro acc ha; show Lib.NumEnd.ok acc = _; rw [if_pos (by exact ha)]; rfl
  | cons c r ih =>
    intro acc ha
    have hc : 48 ≤ c.toNat ∧ c.toNat ≤ 57 := h c (List.mem_cons_self)
    rw [natFrom_cons]
    unfold Lib.parseUint10
    rw [if_pos hc]
    have hge := natFrom_ge r (acc * 10 + (c.toNat - 48))
    by_cases h1 : 1844674407370955162 ≤ acc
    · rw [if_pos h1, if_neg (by omega)]
    · rw [if_neg h1]
      by_cases h2 : 18446744073709551616 ≤ acc * 10 + (c.toNat - 48)
      · rw [if_pos h2, if_neg (by omega)]
      · rw [if_neg h2]
        exact ih (fun c hc => h c (List.mem_cons_of_mem _ hc)) _ (by omega)
theorem parse_digitsM {l : List UInt8} (h : ∀ c ∈ l, isDig c) : ∀ acc, acc < 18446744073709551616 → Lib.parseUintM 18446744073709551615 acc l = if natFrom acc l < 18446744073709551616 then .ok (natFrom acc l) else .range := by
  induction l with
  | nil => intro acc ha; show Lib.NumEnd.ok acc = _; rw [if_pos (by exact ha)]; rfl
  | cons c r ih =>
    intro acc ha
    have hc : 48 ≤ c.toNat ∧ c.toNat ≤ 57 := h c (List.mem_cons_self)
    rw [natFrom_cons]
    unfold Lib.parseUintM
    rw [if_pos hc]
    have hge := natFrom_ge r (acc * 10 + (c.toNat - 48))
    by_cases h1 : 1844674407370955162 ≤ acc
    · rw [if_pos h1, if_neg (by omega)]
    · rw [if_neg h1]
      by_cases h2 : 18446744073709551615 < acc * 10 + (c.toNat - 48)
      · rw [if_pos h2, if_neg (by omega)]
      · rw [if_neg h2]
        exact ih (fun c hc => h c (List.mem_cons_of_mem _ hc)) _ (by omega)
/-- strconv.ParseUint of digits. -/
theorem parseUint_digits {l : List UInt8} (h : ∀ c ∈ l, isDig c) (hne : l ≠ []) : Lib.parseUintB 64 l = if natOf l < 18446744073709551616 then .ok (natOf l) else .range := by
  unfold Lib.parseUintB
  rw [if_neg hne]
  exact parse_digitsM h 0 (by decide)
/-- an exponent's text: a sign or none, and digits. -/
structure ExpText (l : List UInt8) (neg : Bool) (X : List UInt8) : Prop where
  form : (neg = true ∧ l = 45 :: X) ∨ (neg = false ∧ l = 43 :: X) ∨ (neg = false ∧ l = X)
  dig : ∀ c ∈ X, isDig c
  ne : X ≠ []
def expInt (neg : Bool) (X : List UInt8) : Int := if neg then -(natOf X : Int) else natOf X
/-- the exponent as the code holds it: none is greater than 2^40. -/
def expCap (neg : Bool) (X : List UInt8) : Int := min (max (expInt neg X) (-1099511627776)) 1099511627776
theorem atoi_text {l : List UInt8} {neg : Bool} {X : List UInt8} (T : ExpText l neg X) :
    (∃ v, Lib.atoiAll l = .ok v ∧ v = expInt neg X) ∨ (Lib.atoiAll l = .range ∧ 9223372036854775807 < natOf X) := by
  have hp : Lib.parseMag X = if natOf X < 18446744073709551616 then .ok (natOf X) else .range := by
    unfold Lib.parseMag
    rw [if_neg T.ne]
    exact parse_digits T.dig 0 (by decide)
  rcases T.form with ⟨rfl, rfl⟩ | ⟨rfl, rfl⟩ | ⟨rfl, hl⟩
  · unfold Lib.atoiAll
    simp only [show ((45 : UInt8).toNat = 43 ∨ (45 : UInt8).toNat = 45) = True by simp, if_true]
    rw [hp]
    by_cases h : natOf X < 18446744073709551616
    · rw [if_pos h]
      by_cases h2 : 9223372036854775808 < natOf X
      · right
        simp [h2]; omega
      · left
        simp [h2, expInt]
    · rw [if_neg h]; right; exact ⟨rfl, by omega⟩
  · unfold Lib.atoiAll
    simp only [show ((43 : UInt8).toNat = 43 ∨ (43 : UInt8).toNat = 45) = True by simp, if_true]
    rw [hp]
    by_cases h : natOf X < 18446744073709551616
    · rw [if_pos h]
      by_cases h2 : 9223372036854775808 ≤ natOf X
      · right
        simp [h2]; omega
      · left
        simp [h2, expInt]
    · rw [if_neg h]; right; exact ⟨rfl, by omega⟩
  · subst hl
    obtain ⟨c, r, rfl⟩ : ∃ c r, l = c :: r := by
      cases l with
      | nil => exact absurd rfl T.ne
      | cons c r => exact ⟨c, r, rfl⟩
    have hc : 48 ≤ c.toNat ∧ c.toNat ≤ 57 := T.dig c (List.mem_cons_self)
    unfold Lib.atoiAll
    have e1 : (c.toNat = 43) = False := by simp; omega
    have e2 : (c.toNat = 45) = False := by simp; omega
    simp only [e1, e2, or_self, if_false]
    rw [hp]
    by_cases h : natOf (c :: r) < 18446744073709551616
    · rw [if_pos h]
      by_cases h2 : 9223372036854775808 ≤ natOf (c :: r)
      · right
        simp [h2]; omega
      · left
        simp [h2, expInt]
    · rw [if_neg h]; right; exact ⟨rfl, by omega⟩
end Go.Proofs.YtdfodfflkmcgpaaGreatDoor
/- A JSON number, taken apart. Of lists alone. -/
namespace Go.Proofs.YtdfodfflkmcgpaaGreatDoor
open Go
set_option linter.unusedVariables false
/-- the point and what stands behind it. -/
def ptText (hasP : Bool) (P : List UInt8) : List UInt8 := if hasP then 46 :: P else []
/-- a number's text: a sign, digits, a point and digits, an exponent. -/
structure NumText (l : List UInt8) (neg : Bool) (W P : List UInt8) (hasP : Bool) (hasE : Bool) (ec : UInt8) (xt : List UInt8) (eneg : Bool) (X : List UInt8) : Prop where
  form : l = (if neg then [45] else []) ++ (W ++ ptText hasP P ++ (if hasE then ec :: xt else []))
  wdig : ∀ c ∈ W, isDig c
  pdig : ∀ c ∈ P, isDig c
  wne : W ≠ []
  pnone : hasP = false → P = []
  pne : hasP = true → P ≠ []
  ec : hasE = true → ec = 101 ∨ ec = 69
  xt : hasE = true → ExpText xt eneg X
  xnone : hasE = false → X = []
theorem dig_ne {c : UInt8} (h : isDig c) {k : UInt8} (hk : k.toNat < 48 ∨ 57 < k.toNat) : c ≠ k := by
  rintro rfl
  unfold isDig at h
  omega
/-- without its sign. -/
def bodyOf (W P : List UInt8) (hasP hasE : Bool) (ec : UInt8) (xt : List UInt8) : List UInt8 := W ++ ptText hasP P ++ (if hasE then ec :: xt else [])
section
variable {l : List UInt8} {neg : Bool} {W P : List UInt8} {hasP hasE : Bool} {ec : UInt8} {xt : List UInt8} {eneg : Bool} {X : List UInt8}
theorem NumText.trim (T : NumText l neg W P hasP hasE ec xt eneg X) : Lib.trimPrefix l [45] = bodyOf W P hasP hasE ec xt ∧ Lib.hasPrefix l [45] = neg := by
  rw [T.form]
  cases neg
  · obtain ⟨c, r, rfl⟩ : ∃ c r, W = c :: r := by
      cases W with
      | nil => exact absurd rfl T.wne
      | cons c r => exact ⟨c, r, rfl⟩
    have hc : (45 == c) = false := by
      rw [beq_eq_false_iff_ne]
      exact (dig_ne (T.wdig c List.mem_cons_self) (.inl (by decide))).symm
    have hp : Lib.hasPrefix ((if false = true then [45] else []) ++ (c :: r ++ ptText hasP P ++ (if hasE then ec :: xt else []))) [45] = false := by
      show List.isPrefixOf [45] (c :: (r ++ ptText hasP P ++ (if hasE then ec :: xt else []))) = false
      unfold List.isPrefixOf
      rw [hc]; rfl
    refine ⟨?_, hp⟩
    unfold Lib.trimPrefix
    rw [hp]; rfl
  · have hp : Lib.hasPrefix ((if true = true then [45] else []) ++ (W ++ ptText hasP P ++ (if hasE then ec :: xt else []))) [45] = true := by
      show List.isPrefixOf [45] (45 :: (W ++ ptText hasP P ++ (if hasE then ec :: xt else []))) = true
      unfold List.isPrefixOf
      simp
    refine ⟨?_, hp⟩
    unfold Lib.trimPrefix
    rw [hp]; rfl
theorem pt_mem {hasP : Bool} {P : List UInt8} (hd : ∀ c ∈ P, isDig c) {c : UInt8} (h : c ∈ ptText hasP P) : c = 46 ∨ isDig c := by
  unfold ptText at h
  cases hasP
  · cases h
  · rcases List.mem_cons.1 h with h | h
    · exact .inl h
    · exact .inr (hd c h)
theorem NumText.noE (T : NumText l neg W P hasP hasE ec xt eneg X) {c : UInt8} (h : c ∈ W ++ ptText hasP P) : ([101, 69] : List UInt8).contains c = false := by
  have h2 : c = 46 ∨ isDig c := by
    rcases List.mem_append.1 h with h | h
    · exact .inr (T.wdig c h)
    · exact pt_mem T.pdig h
  rcases h2 with rfl | h2
  · decide
  · have a := dig_ne h2 (k := 101) (.inr (by decide))
    have b := dig_ne h2 (k := 69) (.inr (by decide))
    simp [a, b]
theorem NumText.index (T : NumText l neg W P hasP hasE ec xt eneg X) :
    Lib.indexAny (bodyOf W P hasP hasE ec xt) [101, 69] = if hasE then (((W ++ ptText hasP P).length : Nat) : Int) else -1 := by
  have hno : ∀ (t : List UInt8), Lib.NoAny (W ++ ptText hasP P ++ t) [101, 69] (W ++ ptText hasP P).length := by
    intro t j b hj hb
    rw [List.getElem?_append_left hj] at hb
    exact T.noE (List.mem_of_getElem? hb)
  unfold bodyOf
  cases hasE
  · have := hno []
    rw [List.append_nil] at this
    rw [if_neg (by simp), if_neg (by simp), List.append_nil]
    exact Lib.indexAny_none this
  · rw [if_pos rfl, if_pos rfl]
    refine Lib.indexAny_hit (hno _) (x := ec) ?_ ?_
    · rw [List.getElem?_append_right (Nat.le_refl _)]; simp
    · rcases T.ec rfl with h | h
      · rw [h]; decide
      · rw [h]; decide
theorem ascii_of {c : UInt8} (h : isDig c) : c.toNat < 128 := by unfold isDig at h; omega
theorem NumText.ascii (T : NumText l neg W P hasP hasE ec xt eneg X) : ∀ c ∈ bodyOf W P hasP hasE ec xt, c.toNat < 128 := by
  intro c hc
  unfold bodyOf at hc
  rcases List.mem_append.1 hc with h | h
  · rcases List.mem_append.1 h with h | h
    · exact ascii_of (T.wdig c h)
    · rcases pt_mem T.pdig h with h | h
      · rw [h]; decide
      · exact ascii_of h
  · cases hasE
    · cases h
    · rw [if_pos rfl] at h
      rcases List.mem_cons.1 h with h | h
      · rcases T.ec rfl with h2 | h2
        · rw [h, h2]; decide
        · rw [h, h2]; decide
      · have X2 := T.xt rfl
        rcases X2.form with ⟨_, h3⟩ | ⟨_, h3⟩ | ⟨_, h3⟩
        · rw [h3] at h
          rcases List.mem_cons.1 h with h | h
          · rw [h]; decide
          · exact ascii_of (X2.dig c h)
        · rw [h3] at h
          rcases List.mem_cons.1 h with h | h
          · rw [h]; decide
          · exact ascii_of (X2.dig c h)
        · rw [h3] at h
          exact ascii_of (X2.dig c h)
/-- the point parts the digits. -/
theorem cut_point (hw : ∀ c ∈ W, isDig c) (hn : hasP = false → P = []) : Lib.cut (W ++ ptText hasP P) [46] = (W, P, hasP) := by
  have hnW : ∀ (k : Nat), W[k]? ≠ some 46 := fun k hk => dig_ne (hw 46 (List.mem_of_getElem? hk)) (k := 46) (.inl (by decide)) rfl
  unfold Lib.cut ptText
  rw [Lib.index_one]
  cases hasP
  · rw [show (if false = true then 46 :: P else []) = ([] : List UInt8) from rfl, List.append_nil]
    have hi : Lib.indexByte W 46 = -1 := by
      have : Lib.indexAny W [46] = -1 := Lib.indexAny_none fun j b hj hb => by
        have : b ≠ 46 := fun h => hnW j (h ▸ hb)
        simp [this]
      rwa [Lib.indexAny_one] at this
    rw [hi, if_neg (by decide), hn rfl]
  · rw [show (if true = true then 46 :: P else []) = 46 :: P from rfl]
    have hi : Lib.indexByte (W ++ 46 :: P) 46 = (W.length : Nat) := by
      have : Lib.indexAny (W ++ 46 :: P) [46] = (W.length : Nat) := Lib.indexAny_hit (x := 46) (fun j b hj hb => by
        rw [List.getElem?_append_left hj] at hb
        have : b ≠ 46 := fun h => hnW j (h ▸ hb)
        simp [this]) (by rw [List.getElem?_append_right (Nat.le_refl _)]; simp) (by decide)
      rwa [Lib.indexAny_one] at this
    rw [hi, if_pos (by omega), Int.toNat_natCast]
    have e1 : (W ++ 46 :: P).take W.length = W := by rw [List.take_append_of_le_length (Nat.le_refl _), List.take_length]
    have e2 : (W ++ 46 :: P).drop (W.length + 1) = P := by
      rw [List.drop_append, List.drop_eq_nil_of_le (by omega)]
      simp
    show (_, (W ++ 46 :: P).drop (W.length + 1), true) = _
    rw [e1, e2]
end
/-- the digits without noughts ahead; one nought for none. -/
def leadDigits (l : List UInt8) : List UInt8 := if l.dropWhile (· == 48) = [] then [48] else l.dropWhile (· == 48)
theorem natOf_lead (l : List UInt8) : natOf (leadDigits l) = natOf l := by
  have h : natOf (l.dropWhile (· == 48)) = natOf l := by
    induction l with
    | nil => rfl
    | cons c r ih =>
      by_cases hc : c = 48
      · subst hc
        rw [List.dropWhile_cons_of_pos (by simp), ih, show (48 :: r) = [48] ++ r from rfl, natOf_append]
        have : natOf [48] = 0 := by decide
        rw [this]; omega
      · rw [List.dropWhile_cons_of_neg (by simp [hc])]
  unfold leadDigits
  split
  · rename_i h0
    rw [h0] at h
    rw [← h]; decide
  · exact h
theorem leadDigits_dig {l : List UInt8} (h : ∀ c ∈ l, isDig c) : ∀ c ∈ leadDigits l, isDig c := by
  intro c hc
  unfold leadDigits at hc
  split at hc
  · rw [List.mem_singleton.1 hc]; unfold isDig; decide
  · exact h c ((List.dropWhile_sublist _).mem hc)
theorem leadDigits_first {l : List UInt8} : leadDigits l = [48] ∨ ∀ c, (leadDigits l)[0]? = some c → c ≠ 48 := by
  unfold leadDigits
  split
  · exact .inl rfl
  · rename_i h
    right
    intro c hc
    obtain ⟨d, r, hd⟩ : ∃ d r, l.dropWhile (· == 48) = d :: r := by
      cases hh : l.dropWhile (· == 48) with
      | nil => exact absurd hh h
      | cons d r => exact ⟨d, r, rfl⟩
    rw [hd] at hc
    simp only [List.getElem?_cons_zero, Option.some.injEq] at hc
    subst hc
    have h2 := List.head?_dropWhile_not (· == 48) l
    rw [hd] at h2
    simpa using h2
theorem leadDigits_ne {l : List UInt8} : leadDigits l ≠ [] := by
  unfold leadDigits
  split
  · simp
  · assumption
theorem leadDigits_len (l : List UInt8) : (leadDigits l).length ≤ l.length + 1 := by
  unfold leadDigits
  split
  · simp
  · have := (List.dropWhile_sublist (· == (48 : UInt8)) (l := l)).length_le
    omega
/-- the power of ten of the first digit. -/
def leadPow (W P : List UInt8) (hasE eneg : Bool) (X : List UInt8) : Int := (if hasE then expCap eneg X else 0) + ((leadDigits (W ++ P)).length - 1 - P.length)
/-- the number with one digit ahead of the point. -/
def leadText (neg : Bool) (D : List UInt8) (pow : Int) : List UInt8 := (if neg then [45] else []) ++ (D.take 1 ++ [46] ++ D.drop 1 ++ [101] ++ Lib.itoa pow)
end Go.Proofs.YtdfodfflkmcgpaaGreatDoor
