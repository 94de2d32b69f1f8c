/- atof64exact and atof32exact: what the short roads take is read as the nearest rung. -/
import Derived.Test.YtdfodfflkmcgpaaGreatDoorZQb
import Derived.Test.YtdfodfflkmcgpaaGreatDoorZR
import Derived.Laws.FloatArith
import Derived.Deep.DeepCutAuto
import Derived.Test.YtdfodfflkmcgpaaGreatDoorZQ4
namespace Go.Proofs.YtdfodfflkmcgpaaGreatDoor
open Go.RowKit Parse Near
set_option linter.unusedVariables false
set_option maxRecDepth 100000
theorem unary_neg_f (k : FloatKind) (b : Nat) : Op.unary .neg (.float k b) = pure (.float k (Op.negFloat k b)) := rfl
/-- a table of floating numbers behind a slice. -/
def FloatTab (k : FloatKind) (w : World) (B g n : Nat) (f : Nat → Nat) : Prop :=
  ∃ b o c : Nat, b < B ∧ n ≤ c ∧ c ≤ 1000 ∧ w.cell? ⟨g, 0, none⟩ = some (.slice (some ⟨b, o, none⟩) n c) ∧ ∀ i, i < n → w.cell? ⟨b, o + i, none⟩ = some (.float k (f i))
/-- what the reading of numbers asks of a world beside. -/
structure Rich (B : Nat) (w : World) : Prop extends Good B w where
  info : w.cell? ⟨11, 0, none⟩ = some (.int .u64 52)
  p64 : FloatTab .f64 w B 16 23 (fun i => natR Ieee.double (10 ^ i))
  p32 : FloatTab .f32 w B 14 11 (fun i => natR Ieee.single (10 ^ i))
  er : ∃ v, w.cell? ⟨5, 0, none⟩ = some v ∧ (v = .nilIface ∨ ∃ te pe, v = .iface te pe)
theorem FloatTab.below {k : FloatKind} {w w' : World} {B g n : Nat} {f : Nat → Nat} (h : FloatTab k w B g n f) (hg : g < B) (hb : Below B w w') : FloatTab k w' B g n f := by
  obtain ⟨b, o, c, h1, h2, h3, h4, h5⟩ := h
  exact ⟨b, o, c, h1, h2, h3, (cell_same hb hg).trans h4, fun i hi => (cell_same hb h1).trans (h5 i hi)⟩
theorem Rich.below {B : Nat} {w w' : World} (h : Rich B w) (hb : Below B w w') : Rich B w' where
  toGood := h.toGood.below hb
  info := (cell_same hb (by have := h.base; omega)).trans h.info
  p64 := h.p64.below (by have := h.base; omega) hb
  p32 := h.p32.below (by have := h.base; omega) hb
  er := by
    obtain ⟨v, h1, h2⟩ := h.er
    exact ⟨v, (cell_same hb (by have := h.base; omega)).trans h1, h2⟩
theorem neg64 {a : Nat} (h : a < 9223372036854775808) : Op.negFloat .f64 a = sgn64 true + a := by
  unfold Op.negFloat
  show a ^^^ 2 ^ 63 = _
  have h1 : a ^^^ 2 ^ 63 = a ||| 2 ^ 63 := by
    apply Nat.eq_of_testBit_eq
    intro j
    rw [Nat.testBit_xor, Nat.testBit_or, Nat.testBit_two_pow]
    by_cases hj : 63 = j
    · subst hj
      rw [Nat.testBit_lt_two_pow h]; rfl
    · rw [decide_eq_false hj]; simp
  rw [h1, Nat.or_comm]
  exact or_add (i := 63) (a := 1) h
theorem word_eq64 (neg : Bool) (a : Nat) {x : Nat} (h : x = sgn64 neg + a) : x = Ieee.double.word neg a := h.trans (word64 neg a).symm
/-- what the short road hands back: where it says so, the nearest rung. -/
def Short64 (neg : Bool) (m : Nat) (p : Int) (x : Nat) (ok : Bool) : Prop :=
  ok = true → ∃ R, x = sgn64 neg + R ∧ R < 9218868437227405312 ∧ RN (2 ^ 52) (m * 10 ^ p.toNat * 2 ^ 1074) (10 ^ (-p).toNat) R
def Out64 (neg : Bool) (m : Nat) (p : Int) (e : Ending) : Prop := ∃ x ok, e = .returned (.tuple #[.float .f64 x, .bool ok]) ∧ Short64 neg m p x ok
theorem fo64 (m : Nat) (h : m ≠ 0) (hm : m < 2 ^ (52 + 1)) : floatOfInt .f64 (m : Int) = natR Ieee.double m := by
  show Ieee.double.nearest (decide ((m : Int) < 0)) (m : Int).natAbs 0 = _
  rw [decide_eq_false (by omega), Int.natAbs_natCast, (E64.nat h hm).2.2.2 false]
  rfl
theorem neg_eq64 (neg : Bool) (a : Nat) : sgn64 neg + a = Ieee.double.word neg a := (word64 neg a).symm
attribute [local go_sem] unary_neg_f
set_option maxHeartbeats 2000000 in
theorem exact64_any {B : Nat} (neg : Bool) (m : Nat) (p : Int) (w : World) (hG : Rich B w) (hm0 : 0 < m) (hm : m < 18446744073709551616) (hp0 : -400 ≤ p) (hp1 : p ≤ 400) :
    Calls Tryz.prog 216 #[.int .u64 m, .int .i64 p, .bool neg] w fun e w' => Out64 neg m p e ∧ w' = w := by
  have hinfo := hG.info
  obtain ⟨bk, of, cp, hbk, hc1, hc2, hsl, htab⟩ := hG.p64
  by_cases hbig : 4503599627370496 ≤ m
  · have b1 : (((m : Int) / 4503599627370496) != 0) = true := by rw [bne_iff_ne]; omega
    go_enter Tryz.func216, Tryz.ntmps216
    go_wp2_with fail
    go_ret2
    exact ⟨⟨_, _, rfl, fun h => by cases h⟩, rfl⟩
  have b1 : (((m : Int) / 4503599627370496) != 0) = false := by
    rw [bne_eq_false_iff_eq]; omega
  have hmt : m < 2 ^ (52 + 1) := by omega
  obtain ⟨hv, hlt, hnz, -⟩ := E64.nat (m := m) (by omega) hmt
  have hfo := fo64 m (by omega) hmt
  obtain ⟨a, ha⟩ : ∃ a, a = natR Ieee.double m := ⟨_, rfl⟩
  rw [← ha] at hv hlt hnz hfo
  have hinf : Ieee.double.infRung = 9218868437227405312 := by decide +kernel
  rw [hinf] at hlt
  have hng := neg64 (a := a) (by omega)
  obtain ⟨x, hx⟩ : ∃ x, x = sgn64 neg + a := ⟨_, rfl⟩
  have HX := Lib.hid hx
  have HA := Lib.hid (And.intro ha hv)
  have HT := Lib.hid htab
  have HSL := Lib.hid hsl
  clear hx ha hv htab hsl
  go_enter Tryz.func216, Tryz.ntmps216
  go_upto_if 15 with fail
  go_cut [6] (fun s6 wx => wx = w ∧ s6 = .float .f64 x)
  case first =>
    cases neg
    · have e0 : x = a := by rw [HX.out]; show 0 + a = a; omega
      have HE := Lib.hid e0
      clear e0
      go_wp2_with fail
      go_meet
      case rel => exact ⟨rfl, by rw [HE.out]⟩
    · have e0 : Op.negFloat .f64 a = x := by rw [HX.out]; exact hng
      clear hng
      go_wp2_with fail
      go_meet
      case rel => exact ⟨rfl, by first | rfl | rw [e0]⟩
  case rest =>
  obtain ⟨rfl, rfl⟩ := hcut
  clear hng hfo
  rcases Int.lt_trichotomy p 0 with hp | hp | hp
  · -- a quotient
    by_cases hp22 : -22 ≤ p
    · obtain ⟨i, rfl⟩ : ∃ i : Nat, p = -(i : Int) := ⟨(-p).toNat, by omega⟩
      obtain ⟨r, hr, hrl, hRN⟩ := E64.div (m := m) (k := i) (by omega) hmt (by omega) neg
      rw [← HA.out.1, ← word_eq64 neg a HX.out] at hr
      have htb : _ = some (Value.float .f64 (natR Ieee.double (10 ^ i))) := HT.out i (by omega)
      obtain ⟨z, hz⟩ : ∃ z, z = natR Ieee.double (10 ^ i) := ⟨_, rfl⟩
      rw [show natR Ieee.double (10 ^ i) = z from hz.symm] at htb
      rw [show Ieee.double.word false (natR Ieee.double (10 ^ i)) = z by rw [hz]; rfl] at hr
      have hq : ∀ w, (binOp .quo 59 (.float .f64 x) (.float .f64 z)).run Tryz.prog w = .ok (.float .f64 (Ieee.double.word neg r)) w := fun w => run_float_arith w .quo 59 .f64 x z _ hr
      have hsl := HSL.out
      have HR := Lib.hid (And.intro hrl hRN)
      have i1 : 0 < i := by omega
      have i2 : i ≤ 22 := by omega
      clear hz hr hrl hRN hp hp22 hp0 hp1
      go_wp2_with fail
      go_ret2
      refine ⟨⟨_, _, rfl, fun _ => ⟨r, word64 neg r, by have := HR.out.1; omega, ?_⟩⟩, rfl⟩
      have h1 := HR.out.2
      have e1 : (-(i : Int)).toNat = 0 := by omega
      have e2 : (- -(i : Int)).toNat = i := by omega
      rw [e1, e2, Nat.pow_zero, Nat.mul_one]
      exact h1
    · go_wp2_with fail
      go_ret2
      exact ⟨⟨_, _, rfl, fun h => by cases h⟩, rfl⟩
  · subst hp
    go_wp2_with fail
    go_ret2
    refine ⟨⟨_, _, rfl, fun _ => ⟨a, HX.out, hlt, ?_⟩⟩, rfl⟩
    show RN (2 ^ 52) (m * 10 ^ 0 * 2 ^ 1074) (10 ^ 0) a
    rw [Nat.pow_zero, Nat.mul_one, ← HA.out.2]
    exact RN.self (Nat.two_pow_pos 52) a
  · -- a product
    have hcc := (E64.nat (m := 10 ^ 15) (by decide) (by decide +kernel))
    have hct : natR Ieee.double (10 ^ 15) = 4831355200913801216 := by decide +kernel
    have ecf : Ieee.double.word false (natR Ieee.double (10 ^ 15)) = 4831355200913801216 := by rw [hct]; rfl
    have ect : Ieee.double.word true (natR Ieee.double (10 ^ 15)) = 14054727237768577024 := by rw [hct, word64]; rfl
    by_cases hp22 : p ≤ 22
    · obtain ⟨i, rfl⟩ : ∃ i : Nat, p = (i : Int) := ⟨p.toNat, by omega⟩
      obtain ⟨r, hr, hrl, -, hRN, -⟩ := E64.mul (m := m) (k := i) (by omega) hmt (by omega) neg
      rw [← HA.out.1, ← word_eq64 neg a HX.out] at hr
      have htb : _ = some (Value.float .f64 (natR Ieee.double (10 ^ i))) := HT.out i (by omega)
      obtain ⟨z, hz⟩ : ∃ z, z = natR Ieee.double (10 ^ i) := ⟨_, rfl⟩
      rw [← hz] at htb
      rw [show Ieee.double.word false (natR Ieee.double (10 ^ i)) = z by rw [hz]; rfl] at hr
      have hq : ∀ w, (binOp .mul 59 (.float .f64 x) (.float .f64 z)).run Tryz.prog w = .ok (.float .f64 (Ieee.double.word neg r)) w := fun w => run_float_arith w .mul 59 .f64 x z _ hr
      have hsl := HSL.out
      have HR := Lib.hid (And.intro hrl hRN)
      have i1 : 0 < i := by omega
      have i2 : i ≤ 22 := by omega
      clear hz hr hrl hRN hp hp22 hp0 hp1 hcc hct ecf ect
      obtain ⟨c1, h1⟩ : ∃ c, (FloatKind.f64.format.order x 4831355200913801216 == some Ordering.gt) = c := ⟨_, rfl⟩
      obtain ⟨c2, h2⟩ : ∃ c, (FloatKind.f64.format.order x 14054727237768577024 == some Ordering.lt) = c := ⟨_, rfl⟩
      cases c1
      · cases c2
        · -- ARM
          go_wp2_with fail
          go_ret2
          refine ⟨⟨_, _, rfl, fun _ => ⟨r, word64 neg r, by have := HR.out.1; omega, ?_⟩⟩, rfl⟩
          have h1 := HR.out.2
          have e1 : (-(i : Int)).toNat = 0 := by omega
          rw [e1, Int.toNat_natCast, Nat.pow_zero]
          exact h1
        · -- ARM
          go_wp2_with fail
          go_ret2
          exact ⟨⟨_, _, rfl, fun h => by cases h⟩, rfl⟩
      · -- ARM
        go_wp2_with fail
        go_ret2
        exact ⟨⟨_, _, rfl, fun h => by cases h⟩, rfl⟩
    · by_cases hp37 : p ≤ 37
      · obtain ⟨i, rfl⟩ : ∃ i : Nat, p = (i : Int) + 22 := ⟨(p - 22).toNat, by omega⟩
        obtain ⟨r, hr, hrl, hrz, hRN, hrx⟩ := E64.mul (m := m) (k := i) (by omega) hmt (by omega) neg
        rw [← HA.out.1, ← word_eq64 neg a HX.out] at hr
        have htb : _ = some (Value.float .f64 (natR Ieee.double (10 ^ i))) := HT.out i (by omega)
        have hte : _ = some (Value.float .f64 (natR Ieee.double (10 ^ 22))) := HT.out 22 (by omega)
        obtain ⟨z, hz⟩ : ∃ z, z = natR Ieee.double (10 ^ i) := ⟨_, rfl⟩
        obtain ⟨z2, hz2⟩ : ∃ z, z = natR Ieee.double (10 ^ 22) := ⟨_, rfl⟩
        rw [← hz] at htb
        rw [← hz2] at hte
        rw [show Ieee.double.word false (natR Ieee.double (10 ^ i)) = z by rw [hz]; rfl] at hr
        obtain ⟨y, hy⟩ : ∃ y, y = Ieee.double.word neg r := ⟨_, rfl⟩
        rw [← hy] at hr
        have hq : ∀ w, (binOp .mul 59 (.float .f64 x) (.float .f64 z)).run Tryz.prog w = .ok (.float .f64 y) w := fun w => run_float_arith w .mul 59 .f64 x z _ hr
        have hsl := HSL.out
        have i1 : 0 < i := by omega
        have i2 : i ≤ 37 - 22 := by omega
        have hcmp := E64.cmp (m := m) (k := i) (c := 10 ^ 15) (by omega) (by decide +kernel) (by decide) hRN hrl neg
        rw [ecf, ect, ← hy] at hcmp
        obtain ⟨c1, h1⟩ : ∃ c, (FloatKind.f64.format.order y 4831355200913801216 == some Ordering.gt) = c := ⟨_, rfl⟩
        obtain ⟨c2, h2⟩ : ∃ c, (FloatKind.f64.format.order y 14054727237768577024 == some Ordering.lt) = c := ⟨_, rfl⟩
        cases c1
        · cases c2
          · -- ARM
            have hlt2 := hcmp h1 h2
            have hmi : m * 10 ^ i ≠ 0 := Nat.mul_ne_zero (by omega) (Nat.pos_iff_ne_zero.1 (Nat.pow_pos (by omega)))
            obtain ⟨r2, hr2, hrl2, -, hRN2, -⟩ := E64.mul (m := m * 10 ^ i) (k := 22) hmi hlt2 (by omega) neg
            rw [← hrx hlt2, ← hy, show Ieee.double.word false (natR Ieee.double (10 ^ 22)) = z2 by rw [hz2]; rfl] at hr2
            have hq2 : ∀ w, (binOp .mul 59 (.float .f64 y) (.float .f64 z2)).run Tryz.prog w = .ok (.float .f64 (Ieee.double.word neg r2)) w := fun w => run_float_arith w .mul 59 .f64 y z2 _ hr2
            have HR := Lib.hid (And.intro hrl2 hRN2)
            clear hz hr hrl hrz hRN hrx hp hp22 hp37 hp0 hp1 hcc hct ecf ect hz2 hy hcmp hlt2 hmi hr2 hrl2 hRN2
            go_wp2_with fail
            go_ret2
            refine ⟨⟨_, _, rfl, fun _ => ⟨r2, word64 neg r2, by have := HR.out.1; omega, ?_⟩⟩, rfl⟩
            have h1 := HR.out.2
            have e1 : (-((i : Int) + 22)).toNat = 0 := by omega
            have e2 : ((i : Int) + 22).toNat = i + 22 := by omega
            rw [e1, e2, Nat.pow_zero, Nat.pow_add, ← Nat.mul_assoc]
            exact h1
          · -- ARM
            clear hz hr hrl hrz hRN hrx hp hp22 hp37 hp0 hp1 hcc hct ecf ect hz2 hy hcmp
            go_wp2_with fail
            go_ret2
            exact ⟨⟨_, _, rfl, fun h => by cases h⟩, rfl⟩
        · -- ARM
          clear hz hr hrl hrz hRN hrx hp hp22 hp37 hp0 hp1 hcc hct ecf ect hz2 hy hcmp
          go_wp2_with fail
          go_ret2
          exact ⟨⟨_, _, rfl, fun h => by cases h⟩, rfl⟩
      · clear hcc hct ecf ect
        go_wp2_with fail
        go_ret2
        exact ⟨⟨_, _, rfl, fun h => by cases h⟩, rfl⟩
theorem neg32 {a : Nat} (h : a < 2147483648) : Op.negFloat .f32 a = sgn32 true + a := by
  unfold Op.negFloat
  show a ^^^ 2 ^ 31 = _
  have h1 : a ^^^ 2 ^ 31 = a ||| 2 ^ 31 := by
    apply Nat.eq_of_testBit_eq
    intro j
    rw [Nat.testBit_xor, Nat.testBit_or, Nat.testBit_two_pow]
    by_cases hj : 31 = j
    · subst hj
      rw [Nat.testBit_lt_two_pow h]; rfl
    · rw [decide_eq_false hj]; simp
  rw [h1, Nat.or_comm]
  exact or_add (i := 31) (a := 1) h
theorem word_eq32 (neg : Bool) (a : Nat) {x : Nat} (h : x = sgn32 neg + a) : x = Ieee.single.word neg a := h.trans (word32 neg a).symm
/-- what the short road hands back: where it says so, the nearest rung. -/
def Short32 (neg : Bool) (m : Nat) (p : Int) (x : Nat) (ok : Bool) : Prop :=
  ok = true → ∃ R, x = sgn32 neg + R ∧ R < 2139095040 ∧ RN (2 ^ 23) (m * 10 ^ p.toNat * 2 ^ 149) (10 ^ (-p).toNat) R
def Out32 (neg : Bool) (m : Nat) (p : Int) (e : Ending) : Prop := ∃ x ok, e = .returned (.tuple #[.float .f32 x, .bool ok]) ∧ Short32 neg m p x ok
theorem fo32 (m : Nat) (h : m ≠ 0) (hm : m < 2 ^ (23 + 1)) : floatOfInt .f32 (m : Int) = natR Ieee.single m := by
  show Ieee.single.nearest (decide ((m : Int) < 0)) (m : Int).natAbs 0 = _
  rw [decide_eq_false (by omega), Int.natAbs_natCast, (E32.nat h hm).2.2.2 false]
  rfl
theorem neg_eq32 (neg : Bool) (a : Nat) : sgn32 neg + a = Ieee.single.word neg a := (word32 neg a).symm
attribute [local go_sem] unary_neg_f
set_option maxHeartbeats 2000000 in
theorem exact32_any {B : Nat} (neg : Bool) (m : Nat) (p : Int) (w : World) (hG : Rich B w) (hm0 : 0 < m) (hm : m < 18446744073709551616) (hp0 : -400 ≤ p) (hp1 : p ≤ 400) :
    Calls Tryz.prog 210 #[.int .u64 m, .int .i64 p, .bool neg] w fun e w' => Out32 neg m p e ∧ w' = w := by
  have hinfo := hG.info
  obtain ⟨bk, of, cp, hbk, hc1, hc2, hsl, htab⟩ := hG.p32
  by_cases hbig : 8388608 ≤ m
  · have b1 : (((m : Int) / 8388608) != 0) = true := by rw [bne_iff_ne]; omega
    go_enter Tryz.func210, Tryz.ntmps210
    go_wp2_with fail
    go_ret2
    exact ⟨⟨_, _, rfl, fun h => by cases h⟩, rfl⟩
  have b1 : (((m : Int) / 8388608) != 0) = false := by
    rw [bne_eq_false_iff_eq]; omega
  have hmt : m < 2 ^ (23 + 1) := by omega
  obtain ⟨hv, hlt, hnz, -⟩ := E32.nat (m := m) (by omega) hmt
  have hfo := fo32 m (by omega) hmt
  obtain ⟨a, ha⟩ : ∃ a, a = natR Ieee.single m := ⟨_, rfl⟩
  rw [← ha] at hv hlt hnz hfo
  have hinf : Ieee.single.infRung = 2139095040 := by decide +kernel
  rw [hinf] at hlt
  have hng := neg32 (a := a) (by omega)
  obtain ⟨x, hx⟩ : ∃ x, x = sgn32 neg + a := ⟨_, rfl⟩
  have HX := Lib.hid hx
  have HA := Lib.hid (And.intro ha hv)
  have HT := Lib.hid htab
  have HSL := Lib.hid hsl
  clear hx ha hv htab hsl
  go_enter Tryz.func210, Tryz.ntmps210
  go_upto_if 13 with fail
  go_cut [6] (fun s6 wx => wx = w ∧ s6 = .float .f32 x)
  case first =>
    cases neg
    · have e0 : x = a := by rw [HX.out]; show 0 + a = a; omega
      have HE := Lib.hid e0
      clear e0
      go_wp2_with fail
      go_meet
      case rel => exact ⟨rfl, by rw [HE.out]⟩
    · have e0 : Op.negFloat .f32 a = x := by rw [HX.out]; exact hng
      clear hng
      go_wp2_with fail
      go_meet
      case rel => exact ⟨rfl, by first | rfl | rw [e0]⟩
  case rest =>
  obtain ⟨rfl, rfl⟩ := hcut
  clear hng hfo
  rcases Int.lt_trichotomy p 0 with hp | hp | hp
  · -- a quotient
    by_cases hp22 : -10 ≤ p
    · obtain ⟨i, rfl⟩ : ∃ i : Nat, p = -(i : Int) := ⟨(-p).toNat, by omega⟩
      obtain ⟨r, hr, hrl, hRN⟩ := E32.div (m := m) (k := i) (by omega) hmt (by omega) neg
      rw [← HA.out.1, ← word_eq32 neg a HX.out] at hr
      have htb : _ = some (Value.float .f32 (natR Ieee.single (10 ^ i))) := HT.out i (by omega)
      obtain ⟨z, hz⟩ : ∃ z, z = natR Ieee.single (10 ^ i) := ⟨_, rfl⟩
      rw [show natR Ieee.single (10 ^ i) = z from hz.symm] at htb
      rw [show Ieee.single.word false (natR Ieee.single (10 ^ i)) = z by rw [hz]; rfl] at hr
      have hq : ∀ w, (binOp .quo 60 (.float .f32 x) (.float .f32 z)).run Tryz.prog w = .ok (.float .f32 (Ieee.single.word neg r)) w := fun w => run_float_arith w .quo 60 .f32 x z _ hr
      have hsl := HSL.out
      have HR := Lib.hid (And.intro hrl hRN)
      have i1 : 0 < i := by omega
      have i2 : i ≤ 10 := by omega
      clear hz hr hrl hRN hp hp22 hp0 hp1
      go_wp2_with fail
      go_ret2
      refine ⟨⟨_, _, rfl, fun _ => ⟨r, word32 neg r, by have := HR.out.1; omega, ?_⟩⟩, rfl⟩
      have h1 := HR.out.2
      have e1 : (-(i : Int)).toNat = 0 := by omega
      have e2 : (- -(i : Int)).toNat = i := by omega
      rw [e1, e2, Nat.pow_zero, Nat.mul_one]
      exact h1
    · go_wp2_with fail
      go_ret2
      exact ⟨⟨_, _, rfl, fun h => by cases h⟩, rfl⟩
  · subst hp
    go_wp2_with fail
    go_ret2
    refine ⟨⟨_, _, rfl, fun _ => ⟨a, HX.out, hlt, ?_⟩⟩, rfl⟩
    show RN (2 ^ 23) (m * 10 ^ 0 * 2 ^ 149) (10 ^ 0) a
    rw [Nat.pow_zero, Nat.mul_one, ← HA.out.2]
    exact RN.self (Nat.two_pow_pos 23) a
  · -- a product
    have hcc := (E32.nat (m := 10 ^ 7) (by decide) (by decide +kernel))
    have hct : natR Ieee.single (10 ^ 7) = 1259902592 := by decide +kernel
    have ecf : Ieee.single.word false (natR Ieee.single (10 ^ 7)) = 1259902592 := by rw [hct]; rfl
    have ect : Ieee.single.word true (natR Ieee.single (10 ^ 7)) = 3407386240 := by rw [hct, word32]; rfl
    by_cases hp22 : p ≤ 10
    · obtain ⟨i, rfl⟩ : ∃ i : Nat, p = (i : Int) := ⟨p.toNat, by omega⟩
      obtain ⟨r, hr, hrl, -, hRN, -⟩ := E32.mul (m := m) (k := i) (by omega) hmt (by omega) neg
      rw [← HA.out.1, ← word_eq32 neg a HX.out] at hr
      have htb : _ = some (Value.float .f32 (natR Ieee.single (10 ^ i))) := HT.out i (by omega)
      obtain ⟨z, hz⟩ : ∃ z, z = natR Ieee.single (10 ^ i) := ⟨_, rfl⟩
      rw [← hz] at htb
      rw [show Ieee.single.word false (natR Ieee.single (10 ^ i)) = z by rw [hz]; rfl] at hr
      have hq : ∀ w, (binOp .mul 60 (.float .f32 x) (.float .f32 z)).run Tryz.prog w = .ok (.float .f32 (Ieee.single.word neg r)) w := fun w => run_float_arith w .mul 60 .f32 x z _ hr
      have hsl := HSL.out
      have HR := Lib.hid (And.intro hrl hRN)
      have i1 : 0 < i := by omega
      have i2 : i ≤ 10 := by omega
      clear hz hr hrl hRN hp hp22 hp0 hp1 hcc hct ecf ect
      obtain ⟨c1, h1⟩ : ∃ c, (FloatKind.f32.format.order x 1259902592 == some Ordering.gt) = c := ⟨_, rfl⟩
      obtain ⟨c2, h2⟩ : ∃ c, (FloatKind.f32.format.order x 3407386240 == some Ordering.lt) = c := ⟨_, rfl⟩
      cases c1
      · cases c2
        · -- ARM
          go_wp2_with fail
          go_ret2
          refine ⟨⟨_, _, rfl, fun _ => ⟨r, word32 neg r, by have := HR.out.1; omega, ?_⟩⟩, rfl⟩
          have h1 := HR.out.2
          have e1 : (-(i : Int)).toNat = 0 := by omega
          rw [e1, Int.toNat_natCast, Nat.pow_zero]
          exact h1
        · -- ARM
          go_wp2_with fail
          go_ret2
          exact ⟨⟨_, _, rfl, fun h => by cases h⟩, rfl⟩
      · -- ARM
        go_wp2_with fail
        go_ret2
        exact ⟨⟨_, _, rfl, fun h => by cases h⟩, rfl⟩
    · by_cases hp37 : p ≤ 17
      · obtain ⟨i, rfl⟩ : ∃ i : Nat, p = (i : Int) + 10 := ⟨(p - 10).toNat, by omega⟩
        obtain ⟨r, hr, hrl, hrz, hRN, hrx⟩ := E32.mul (m := m) (k := i) (by omega) hmt (by omega) neg
        rw [← HA.out.1, ← word_eq32 neg a HX.out] at hr
        have htb : _ = some (Value.float .f32 (natR Ieee.single (10 ^ i))) := HT.out i (by omega)
        have hte : _ = some (Value.float .f32 (natR Ieee.single (10 ^ 10))) := HT.out 10 (by omega)
        obtain ⟨z, hz⟩ : ∃ z, z = natR Ieee.single (10 ^ i) := ⟨_, rfl⟩
        obtain ⟨z2, hz2⟩ : ∃ z, z = natR Ieee.single (10 ^ 10) := ⟨_, rfl⟩
        rw [← hz] at htb
        rw [← hz2] at hte
        rw [show Ieee.single.word false (natR Ieee.single (10 ^ i)) = z by rw [hz]; rfl] at hr
        obtain ⟨y, hy⟩ : ∃ y, y = Ieee.single.word neg r := ⟨_, rfl⟩
        rw [← hy] at hr
        have hq : ∀ w, (binOp .mul 60 (.float .f32 x) (.float .f32 z)).run Tryz.prog w = .ok (.float .f32 y) w := fun w => run_float_arith w .mul 60 .f32 x z _ hr
        have hsl := HSL.out
        have i1 : 0 < i := by omega
        have i2 : i ≤ 17 - 10 := by omega
        have hcmp := E32.cmp (m := m) (k := i) (c := 10 ^ 7) (by omega) (by decide +kernel) (by decide) hRN hrl neg
        rw [ecf, ect, ← hy] at hcmp
        obtain ⟨c1, h1⟩ : ∃ c, (FloatKind.f32.format.order y 1259902592 == some Ordering.gt) = c := ⟨_, rfl⟩
        obtain ⟨c2, h2⟩ : ∃ c, (FloatKind.f32.format.order y 3407386240 == some Ordering.lt) = c := ⟨_, rfl⟩
        cases c1
        · cases c2
          · -- ARM
            have hlt2 := hcmp h1 h2
            have hmi : m * 10 ^ i ≠ 0 := Nat.mul_ne_zero (by omega) (Nat.pos_iff_ne_zero.1 (Nat.pow_pos (by omega)))
            obtain ⟨r2, hr2, hrl2, -, hRN2, -⟩ := E32.mul (m := m * 10 ^ i) (k := 10) hmi hlt2 (by omega) neg
            rw [← hrx hlt2, ← hy, show Ieee.single.word false (natR Ieee.single (10 ^ 10)) = z2 by rw [hz2]; rfl] at hr2
            have hq2 : ∀ w, (binOp .mul 60 (.float .f32 y) (.float .f32 z2)).run Tryz.prog w = .ok (.float .f32 (Ieee.single.word neg r2)) w := fun w => run_float_arith w .mul 60 .f32 y z2 _ hr2
            have HR := Lib.hid (And.intro hrl2 hRN2)
            clear hz hr hrl hrz hRN hrx hp hp22 hp37 hp0 hp1 hcc hct ecf ect hz2 hy hcmp hlt2 hmi hr2 hrl2 hRN2
            go_wp2_with fail
            go_ret2
            refine ⟨⟨_, _, rfl, fun _ => ⟨r2, word32 neg r2, by have := HR.out.1; omega, ?_⟩⟩, rfl⟩
            have h1 := HR.out.2
            have e1 : (-((i : Int) + 10)).toNat = 0 := by omega
            have e2 : ((i : Int) + 10).toNat = i + 10 := by omega
            rw [e1, e2, Nat.pow_zero, Nat.pow_add, ← Nat.mul_assoc]
            exact h1
          · -- ARM
            clear hz hr hrl hrz hRN hrx hp hp22 hp37 hp0 hp1 hcc hct ecf ect hz2 hy hcmp
            go_wp2_with fail
            go_ret2
            exact ⟨⟨_, _, rfl, fun h => by cases h⟩, rfl⟩
        · -- ARM
          clear hz hr hrl hrz hRN hrx hp hp22 hp37 hp0 hp1 hcc hct ecf ect hz2 hy hcmp
          go_wp2_with fail
          go_ret2
          exact ⟨⟨_, _, rfl, fun h => by cases h⟩, rfl⟩
      · clear hcc hct ecf ect
        go_wp2_with fail
        go_ret2
        exact ⟨⟨_, _, rfl, fun h => by cases h⟩, rfl⟩
end Go.Proofs.YtdfodfflkmcgpaaGreatDoor
/- special: a number is none of the named ones. -/
namespace Go.Proofs.YtdfodfflkmcgpaaGreatDoor
open Go.RowKit Go.Sort
set_option linter.unusedVariables false
set_option maxRecDepth 100000
theorem common_any (s : ByteArray) (w : World) (h0 : 0 < s.size) (hs : s.size ≤ 1000000000) (h1 : 48 ≤ s[0].toNat) (h2 : s[0].toNat ≤ 57) :
    Calls Tryz.prog 220 #[.string s, .string ⟨#[105, 110, 102, 105, 110, 105, 116, 121]⟩] w fun e w' => e = .returned (.int .i64 0) ∧ w' = w := by
  obtain ⟨n, hn⟩ : ∃ n : Int, n = min 8 (s.size : Int) := ⟨_, rfl⟩
  have hn1 : 0 < n := by omega
  have hmin : min 8 (s.size : Int) = n := hn.symm
  have b1 : (((s[0].toNat : Nat) : Int) != (((ByteArray.mk #[105, 110, 102, 105, 110, 105, 116, 121])[0].toNat : Nat) : Int)) = true := by
    rw [bne_iff_ne, show (ByteArray.mk #[105, 110, 102, 105, 110, 105, 116, 121])[0].toNat = 105 from rfl]; omega
  clear hn
  go_enter Tryz.func220, Tryz.ntmps220
  go_wp2_with fail
  go_loop [6] (fun s6 => s6 = .int .i64 0) (fun s6 => 0)
  case atStart => rfl
  case round =>
    subst hrel
    go_wp2_with fail
    go_ret
    exact ⟨rfl, rfl⟩
set_option maxHeartbeats 1000000 in
theorem special_pos (s : ByteArray) (w : World) (h0 : 0 < s.size) (h1 : 48 ≤ s[0].toNat) (h2 : s[0].toNat ≤ 57) :
    Calls Tryz.prog 205 #[.string s] w fun e w' => e = .returned (.tuple #[.float .f64 0, .int .i64 0, .bool false]) ∧ w' = w := by
  have hne : ¬ s = ByteArray.empty := fun h => by subst h; exact absurd h0 (by decide)
  have b0 : ((s.size : Int) == 0) = false := by rw [beq_eq_false_iff_ne]; omega
  have b1 : (((s[0].toNat : Nat) : Int) == 43) = false := by rw [beq_eq_false_iff_ne]; omega
  have b2 : (((s[0].toNat : Nat) : Int) == 45) = false := by rw [beq_eq_false_iff_ne]; omega
  have b3 : (((s[0].toNat : Nat) : Int) == 105) = false := by rw [beq_eq_false_iff_ne]; omega
  have b4 : (((s[0].toNat : Nat) : Int) == 73) = false := by rw [beq_eq_false_iff_ne]; omega
  have b5 : (((s[0].toNat : Nat) : Int) == 110) = false := by rw [beq_eq_false_iff_ne]; omega
  have b6 : (((s[0].toNat : Nat) : Int) == 78) = false := by rw [beq_eq_false_iff_ne]; omega
  go_enter Tryz.func205, Tryz.ntmps205
  go_wp2_with fail
  go_ret3
  exact ⟨rfl, rfl⟩
set_option maxHeartbeats 1000000 in
theorem special_neg (s : ByteArray) (w : World) (h0 : 1 < s.size) (hs : s.size ≤ 1000000000) (hm : s[0].toNat = 45) (h1 : 48 ≤ s[1].toNat) (h2 : s[1].toNat ≤ 57) :
    Calls Tryz.prog 205 #[.string s] w fun e w' => e = .returned (.tuple #[.float .f64 0, .int .i64 0, .bool false]) ∧ w' = w := by
  have hne : ¬ s = ByteArray.empty := fun h => by subst h; exact absurd h0 (by decide)
  have b0 : ((s.size : Int) == 0) = false := by rw [beq_eq_false_iff_ne]; omega
  have hsz : 0 < (s.extract 1 s.size).size := by rw [ByteArray.size_extract]; omega
  have hg : (s.extract 1 s.size)[0] = s[1] := by
    rw [ByteArray.getElem_extract]
  have hc := fun w => common_any (s.extract 1 s.size) w hsz (by rw [ByteArray.size_extract]; omega) (by rw [hg]; exact h1) (by rw [hg]; exact h2)
  have HC := Lib.hid hc
  clear hc hg hsz h1 h2
  go_enter Tryz.func205, Tryz.ntmps205
  go_wp2_with fail
  refine (HC.out _).mono ?_
  rintro e w' ⟨rfl, hw⟩
  rw [hw]
  go_wp2_with fail
  go_ret3
  exact ⟨rfl, rfl⟩
theorem special_lead {s : ByteArray} {neg : Bool} {i0 : Nat} {D : List UInt8} {eneg : Bool} {j0 : Nat} {X : List UInt8} (L : Lead s neg i0 D eneg j0 X) (w : World) :
    Calls Tryz.prog 205 #[.string s] w fun e w' => e = .returned (.tuple #[.float .f64 0, .int .i64 0, .bool false]) ∧ w' = w := by
  have hD1 : 0 < D.length := List.length_pos_iff.2 L.dpos
  obtain ⟨hz0, hz1⟩ := get_of (L.first.trans (List.getElem?_eq_getElem hD1))
  have hcd := L.dig D[0] (List.getElem_mem hD1)
  unfold isDig at hcd
  rw [← hz1] at hcd
  have hi := L.hi0
  cases neg
  · subst hi
    exact special_pos s w hz0 hcd.1 hcd.2
  · subst hi
    obtain ⟨g0, g1⟩ := get_of (L.sgn rfl)
    exact special_neg s w hz0 L.room (by rw [g1]; rfl) hcd.1 hcd.2
end Go.Proofs.YtdfodfflkmcgpaaGreatDoor
/- atof64 and atof32, where no digit is left out: the nearest rung, or the error. -/
namespace Go.Proofs.YtdfodfflkmcgpaaGreatDoor
open Go.RowKit Go.Sort Parse Near
set_option linter.unusedVariables false
set_option maxRecDepth 100000
theorem RN.zero {t d : Nat} (ht : 1 ≤ t) (hd : 0 < d) : RN (2 ^ t) 0 d 0 := by
  refine ⟨.inl rfl, .inl ?_⟩
  have hm : mid (2 ^ t) 0 = 1 := by
    have h1 : 1 < 2 ^ t := Nat.lt_of_lt_of_le (by decide : 1 < 2 ^ 1) (pow_le ht)
    unfold mid
    rw [val_lt (by omega), val_lt h1]
  rw [hm]; omega
/-- m by ten to the p is read as R. -/
def ReadsAs (t L m : Nat) (p : Int) (R : Nat) : Prop := RN (2 ^ t) (m * 10 ^ p.toNat * 2 ^ L) (10 ^ (-p).toNat) R
theorem reads_zero {t : Nat} (L : Nat) (p : Int) (ht : 1 ≤ t) : ReadsAs t L 0 p 0 := by
  unfold ReadsAs
  rw [Nat.zero_mul, Nat.zero_mul]
  exact RN.zero ht (Nat.pow_pos (by omega))
/-- how a reading ends: a finite number, or an infinity and the error; n: how far it came. -/
def end3 (k : FloatKind) (inf sg R : Nat) (n : Int) : Value := if R < inf then .tuple #[.float k (sg + R : Nat), .int .i64 n, .nilIface] else .tuple #[.float k (sg + inf : Nat), .int .i64 n, .iface 160 (.int .i64 1)]
def Atof (k : FloatKind) (t L inf sg m : Nat) (p : Int) (n : Int) (e : Ending) : Prop := ∃ R, ReadsAs t L m p R ∧ e = .returned (end3 k inf sg R n)
theorem big_reads64 (m : Nat) (p : Int) (hp : 0 ≤ p) (hm : m ≠ 0) : ∃ R, ReadsAs 52 1074 m p R := by
  refine ⟨rung Ieee.double (m * 10 ^ p.toNat) 0, ?_⟩
  have := rung_RN Ieee.double (by decide) (mag := m * 10 ^ p.toNat) 0 (Nat.mul_ne_zero hm (Nat.pos_iff_ne_zero.1 (Nat.pow_pos (by omega))))
  have hl : Ieee.double.leastPlace = -1074 := by decide +kernel
  rw [hl, show ((0 : Int) - -1074).toNat = 1074 from rfl, show (-1074 - (0 : Int)).toNat = 0 from rfl] at this
  unfold ReadsAs
  rw [show (-p).toNat = 0 by omega]
  exact this
set_option maxHeartbeats 2000000 in
theorem atof64_core {B : Nat} (s : ByteArray) (neg : Bool) (m : Nat) (p n : Int) (w : World) (hG : Rich B w) (hB : B ≤ w.heap.size)
   (hsp : ∀ w, Calls Tryz.prog 205 #[.string s] w fun e w' => e = .returned (.tuple #[.float .f64 0, .int .i64 0, .bool false]) ∧ w' = w)
   (hrd : ∀ w, Calls Tryz.prog 206 #[.string s] w fun e w' => e = .returned (.tuple #[.int .u64 m, .int .i64 p, .bool neg, .bool false, .bool false, .int .i64 n, .bool true]) ∧ w' = w)
   (hm : m < 10 ^ 19) (hp0 : -200000 ≤ p) (hp1 : p ≤ 200000) :
    Calls Tryz.prog 184 #[.string s] w fun e w' => Atof .f64 52 1074 9218868437227405312 (sgn64 neg) m p n e ∧ Below B w w' := by
  have hopt := hG.opt
  have hm64 : m < 18446744073709551616 := Nat.lt_trans hm (by decide)
  have hsgl : sgn64 neg ≤ 9223372036854775808 := by unfold sgn64; cases neg <;> simp
  obtain ⟨sg, hsg⟩ : ∃ sg, sg = sgn64 neg := ⟨_, rfl⟩
  rw [← hsg] at hsgl ⊢
  have HS := Lib.hid hsp
  have HR := Lib.hid hrd
  have HG := Lib.hid hsg
  have HM := Lib.hid hm
  have a0 : bits .or .u64 (sg : Int) 0 = (sg : Int) := by
    have := u64_or_nat sg 0 (by omega) (by omega)
    rwa [Nat.or_zero] at this
  obtain ⟨z, hz⟩ : ∃ z, z = sg + 9218868437227405312 := ⟨_, rfl⟩
  have a1 : bits .or .u64 (sg : Int) 9218868437227405312 = (z : Int) := by
    have := u64_or_nat sg 9218868437227405312 (by omega) (by omega)
    rw [hsg, sgn64_or neg (by omega), ← hsg, ← hz] at this
    exact this
  have HZ := Lib.hid hz
  clear hz
  have hf0 := run_215 sg
  have hf1 := run_215 z
  clear hsp hrd hsg hm
  go_enter Tryz.func184, Tryz.ntmps184
  go_wp2_with fail
  refine (HS.out _).mono ?_
  rintro e w2 ⟨rfl, hw⟩
  subst hw
  go_wp2_with fail
  refine (HR.out _).mono ?_
  rintro e w3 ⟨rfl, hw⟩
  subst hw
  go_upto_region 11 with fail
  go_cut [16] (fun s16 wx => wx = w3 ∧ s16 = .int .u64 (sg : Nat))
  case first =>
    go_wp2_with fail
    refine (bool2_u64 neg _).mono ?_
    rintro e w4 ⟨rfl, hw⟩
    subst hw
    have hsg := HG.out
    cases neg
    · have h0 : sg = 0 := hsg
      clear hsg
      subst h0
      go_wp2_with fail
      go_meet
      case rel => exact ⟨rfl, rfl⟩
    · have h0 : sg = 9223372036854775808 := hsg
      clear hsg
      subst h0
      go_wp2_with fail
      go_meet
      case rel => exact ⟨rfl, rfl⟩
  case rest =>
  obtain ⟨hw, hs16⟩ := hcut
  subst hs16
  subst hw
  by_cases hm0 : m = 0
  · -- ARM
    subst hm0
    go_wp2_with fail
    go_ret3
    refine ⟨⟨0, reads_zero _ _ (by decide), ?_⟩, Below.refl _ _⟩
    unfold end3
    rw [if_pos (by omega)]
    rfl
  have bm : ((m : Int) == 0) = false := by rw [beq_eq_false_iff_ne]; omega
  by_cases hhi : 310 < p
  · -- ARM
    obtain ⟨R, hR⟩ := big_reads64 m p (by omega) hm0
    have hge := over64 (N := m) (P := p) (by omega) (by omega) hR
    have HQ := Lib.hid (And.intro hR hge)
    clear hR hge
    go_wp2_with fail
    go_ret3
    refine ⟨⟨R, HQ.out.1, ?_⟩, Below.refl _ _⟩
    unfold end3
    rw [if_neg (by have := HQ.out.2; omega), ← HZ.out]
    rfl
  by_cases hlo : p < -345
  · -- ARM
    go_wp2_with fail
    go_ret3
    refine ⟨⟨0, under64 (by have := HM.out; omega) (by omega), ?_⟩, Below.refl _ _⟩
    unfold end3
    rw [if_pos (by omega)]
    rfl
  go_wp2_with fail
  refine (exact64_any neg m p _ hG (by omega) hm64 (by omega) (by omega)).mono ?_
  rintro e w5 ⟨⟨x, ok, rfl, hS⟩, hw⟩
  subst hw
  have HQ := Lib.hid hS
  clear hS
  cases ok
  · -- ARM
    go_wp2_with fail
    rw [HG.out]
    refine (parse64_any neg m p _ hG.toGood hB (by omega) hm64 (by omega) (by omega)).mono ?_
    rintro e w6 ⟨rfl, hb⟩
    obtain ⟨hRN, -⟩ := parse_RN (t := 52) (L := 1074) (d := m) (p := p) (by omega) (by omega) (by omega) hm64 (by omega) (by omega)
    obtain ⟨R, hR⟩ : ∃ R, R = parseR 52 1074 m p := ⟨_, rfl⟩
    rw [← hR] at hRN ⊢
    clear hR
    have HN := Lib.hid hRN
    clear hRN a0 a1 hf0 hf1
    rw [← HG.out]
    unfold endOf
    by_cases hin : R < 9218868437227405312
    · rw [if_pos hin]
      go_wp2_with fail
      go_ret3
      exact ⟨⟨R, HN.out, by unfold end3; rw [if_pos hin]; rfl⟩, hb⟩
    · rw [if_neg hin]
      go_wp2_with fail
      go_ret3
      exact ⟨⟨R, HN.out, by unfold end3; rw [if_neg hin]; rfl⟩, hb⟩
  · -- ARM
    obtain ⟨R, h1, h2, h3⟩ := HQ.out rfl
    have HN := Lib.hid (And.intro h1 h3)
    clear h1 h3 a0 a1 hf0 hf1
    go_wp2_with fail
    go_ret3
    refine ⟨⟨R, HN.out.2, ?_⟩, Below.refl _ _⟩
    unfold end3
    rw [if_pos h2, HG.out, ← HN.out.1]
    rfl
theorem big_reads32 (m : Nat) (p : Int) (hp : 0 ≤ p) (hm : m ≠ 0) : ∃ R, ReadsAs 23 149 m p R := by
  refine ⟨rung Ieee.single (m * 10 ^ p.toNat) 0, ?_⟩
  have := rung_RN Ieee.single (by decide) (mag := m * 10 ^ p.toNat) 0 (Nat.mul_ne_zero hm (Nat.pos_iff_ne_zero.1 (Nat.pow_pos (by omega))))
  have hl : Ieee.single.leastPlace = -149 := by decide +kernel
  rw [hl, show ((0 : Int) - -149).toNat = 149 from rfl, show (-149 - (0 : Int)).toNat = 0 from rfl] at this
  unfold ReadsAs
  rw [show (-p).toNat = 0 by omega]
  exact this
set_option maxHeartbeats 2000000 in
theorem atof32_core {B : Nat} (s : ByteArray) (neg : Bool) (m : Nat) (p n : Int) (w : World) (hG : Rich B w) (hB : B ≤ w.heap.size)
   (hsp : ∀ w, Calls Tryz.prog 205 #[.string s] w fun e w' => e = .returned (.tuple #[.float .f64 0, .int .i64 0, .bool false]) ∧ w' = w)
   (hrd : ∀ w, Calls Tryz.prog 206 #[.string s] w fun e w' => e = .returned (.tuple #[.int .u64 m, .int .i64 p, .bool neg, .bool false, .bool false, .int .i64 n, .bool true]) ∧ w' = w)
   (hm : m < 10 ^ 19) (hp0 : -200000 ≤ p) (hp1 : p ≤ 200000) :
    Calls Tryz.prog 183 #[.string s] w fun e w' => Atof .f32 23 149 2139095040 (sgn32 neg) m p n e ∧ Below B w w' := by
  have hopt := hG.opt
  have hm64 : m < 18446744073709551616 := Nat.lt_trans hm (by decide)
  have hsgl : sgn32 neg ≤ 2147483648 := by unfold sgn32; cases neg <;> simp
  obtain ⟨sg, hsg⟩ : ∃ sg, sg = sgn32 neg := ⟨_, rfl⟩
  rw [← hsg] at hsgl ⊢
  have HS := Lib.hid hsp
  have HR := Lib.hid hrd
  have HG := Lib.hid hsg
  have HM := Lib.hid hm
  have a0 : bits .or .u32 (sg : Int) 0 = (sg : Int) := by
    have := u32_or_nat sg 0 (by omega) (by omega)
    rwa [Nat.or_zero] at this
  obtain ⟨z, hz⟩ : ∃ z, z = sg + 2139095040 := ⟨_, rfl⟩
  have a1 : bits .or .u32 (sg : Int) 2139095040 = (z : Int) := by
    have := u32_or_nat sg 2139095040 (by omega) (by omega)
    rw [hsg, sgn32_or neg (by omega), ← hsg, ← hz] at this
    exact this
  have HZ := Lib.hid hz
  clear hz
  have hf0 := run_209' sg
  have hf1 := run_209' z
  clear hsp hrd hsg hm
  go_enter Tryz.func183, Tryz.ntmps183
  go_wp2_with fail
  refine (HS.out _).mono ?_
  rintro e w2 ⟨rfl, hw⟩
  subst hw
  go_wp2_with fail
  refine (HR.out _).mono ?_
  rintro e w3 ⟨rfl, hw⟩
  subst hw
  go_upto_region 11 with fail
  go_cut [16] (fun s16 wx => wx = w3 ∧ s16 = .int .u32 (sg : Nat))
  case first =>
    go_wp2_with fail
    refine (bool2_u32 neg _).mono ?_
    rintro e w4 ⟨rfl, hw⟩
    subst hw
    have hsg := HG.out
    cases neg
    · have h0 : sg = 0 := hsg
      clear hsg
      subst h0
      go_wp2_with fail
      go_meet
      case rel => exact ⟨rfl, rfl⟩
    · have h0 : sg = 2147483648 := hsg
      clear hsg
      subst h0
      go_wp2_with fail
      go_meet
      case rel => exact ⟨rfl, rfl⟩
  case rest =>
  obtain ⟨hw, hs16⟩ := hcut
  subst hs16
  subst hw
  by_cases hm0 : m = 0
  · -- ARM
    subst hm0
    go_wp2_with fail
    go_ret3
    refine ⟨⟨0, reads_zero _ _ (by decide), ?_⟩, Below.refl _ _⟩
    unfold end3
    rw [if_pos (by omega)]
    rfl
  have bm : ((m : Int) == 0) = false := by rw [beq_eq_false_iff_ne]; omega
  by_cases hhi : 40 < p
  · -- ARM
    obtain ⟨R, hR⟩ := big_reads32 m p (by omega) hm0
    have hge := over32 (N := m) (P := p) (by omega) (by omega) hR
    have HQ := Lib.hid (And.intro hR hge)
    clear hR hge
    go_wp2_with fail
    go_ret3
    refine ⟨⟨R, HQ.out.1, ?_⟩, Below.refl _ _⟩
    unfold end3
    rw [if_neg (by have := HQ.out.2; omega), ← HZ.out]
    rfl
  by_cases hlo : p < -70
  · -- ARM
    go_wp2_with fail
    go_ret3
    refine ⟨⟨0, under32 (by have := HM.out; omega) (by omega), ?_⟩, Below.refl _ _⟩
    unfold end3
    rw [if_pos (by omega)]
    rfl
  go_wp2_with fail
  refine (exact32_any neg m p _ hG (by omega) hm64 (by omega) (by omega)).mono ?_
  rintro e w5 ⟨⟨x, ok, rfl, hS⟩, hw⟩
  subst hw
  have HQ := Lib.hid hS
  clear hS
  cases ok
  · -- ARM
    go_wp2_with fail
    rw [HG.out]
    refine (parse32_any neg m p _ hG.toGood hB (by omega) hm64 (by omega) (by omega)).mono ?_
    rintro e w6 ⟨rfl, hb⟩
    obtain ⟨hRN, -⟩ := parse_RN (t := 23) (L := 149) (d := m) (p := p) (by omega) (by omega) (by omega) hm64 (by omega) (by omega)
    obtain ⟨R, hR⟩ : ∃ R, R = parseR 23 149 m p := ⟨_, rfl⟩
    rw [← hR] at hRN ⊢
    clear hR
    have HN := Lib.hid hRN
    clear hRN a0 a1 hf0 hf1
    rw [← HG.out]
    unfold endOf
    by_cases hin : R < 2139095040
    · rw [if_pos hin]
      go_wp2_with fail
      go_ret3
      exact ⟨⟨R, HN.out, by unfold end3; rw [if_pos hin]; rfl⟩, hb⟩
    · rw [if_neg hin]
      go_wp2_with fail
      go_ret3
      exact ⟨⟨R, HN.out, by unfold end3; rw [if_neg hin]; rfl⟩, hb⟩
  · -- ARM
    obtain ⟨R, h1, h2, h3⟩ := HQ.out rfl
    have HN := Lib.hid (And.intro h1 h3)
    clear h1 h3 a0 a1 hf0 hf1
    go_wp2_with fail
    go_ret3
    refine ⟨⟨R, HN.out.2, ?_⟩, Below.refl _ _⟩
    unfold end3
    rw [if_pos h2, HG.out, ← HN.out.1]
    rfl
end Go.Proofs.YtdfodfflkmcgpaaGreatDoor
