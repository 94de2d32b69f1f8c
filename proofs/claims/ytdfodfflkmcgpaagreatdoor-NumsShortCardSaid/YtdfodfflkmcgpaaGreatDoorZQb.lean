/- A sign, a significand and an exponent put together: the word of the rung; pack64. -/
import Derived.Test.YtdfodfflkmcgpaaGreatDoorZA4
import Derived.Test.YtdfodfflkmcgpaaGreatDoorZR
import Derived.Test.YtdfodfflkmcgpaaGreatDoorZB
namespace Go.Proofs.YtdfodfflkmcgpaaGreatDoor
open Go.RowKit Uscale Pow10
set_option linter.unusedVariables false
set_option maxRecDepth 100000
theorem or_add {i a b : Nat} (h : b < 2 ^ i) : 2 ^ i * a ||| b = 2 ^ i * a + b := (Nat.two_pow_add_eq_or_of_lt h a).symm
theorem and_parts (x m i : Nat) : x &&& m = 2 ^ i * (x / 2 ^ i &&& m / 2 ^ i) + (x % 2 ^ i &&& m % 2 ^ i) := by
  rw [← Nat.and_div_two_pow, ← Nat.and_mod_two_pow, Nat.div_add_mod]
theorem and_pow (x i : Nat) : x &&& 2 ^ i = if x / 2 ^ i % 2 = 1 then 2 ^ i else 0 := by
  rw [and_parts x (2 ^ i) i, Nat.div_self (Nat.two_pow_pos i), Nat.mod_self, nat_mask1]
  rcases Nat.mod_two_eq_zero_or_one (x / 2 ^ i) with h | h
  · rw [h]; simp
  · rw [h]; simp
/-- the sign's bit. -/
def sgn64 (neg : Bool) : Nat := if neg then 9223372036854775808 else 0
def sgn32 (neg : Bool) : Nat := if neg then 2147483648 else 0
theorem sgn64_or (neg : Bool) {x : Nat} (h : x < 9223372036854775808) : sgn64 neg ||| x = sgn64 neg + x := by
  cases neg
  · show 0 ||| x = 0 + x; simp
  · exact or_add (i := 63) (a := 1) h
theorem sgn32_or (neg : Bool) {x : Nat} (h : x < 2147483648) : sgn32 neg ||| x = sgn32 neg + x := by
  cases neg
  · show 0 ||| x = 0 + x; simp
  · exact or_add (i := 31) (a := 1) h
theorem word64 (neg : Bool) (r : Nat) : Ieee.double.word neg r = sgn64 neg + r := by
  unfold Ieee.Format.word sgn64
  cases neg
  · simp
  · rfl
theorem word32 (neg : Bool) (r : Nat) : Ieee.single.word neg r = sgn32 neg + r := by
  unfold Ieee.Format.word sgn32
  cases neg
  · simp
  · rfl
theorem bit52 (neg : Bool) {N : Nat} (h : N < 9007199254740992) : (sgn64 neg + N) &&& 4503599627370496 = if 4503599627370496 ≤ N then 4503599627370496 else 0 := by
  rw [show (4503599627370496 : Nat) = 2 ^ 52 from rfl, and_pow, show (2:Nat) ^ 52 = 4503599627370496 from rfl]
  by_cases hN : 4503599627370496 ≤ N
  · rw [if_pos hN, if_pos (by unfold sgn64; cases neg <;> simp <;> omega)]
  · rw [if_neg hN, if_neg (by unfold sgn64; cases neg <;> simp <;> omega)]
theorem bit23 (neg : Bool) {N : Nat} (h : N < 16777216) : (sgn32 neg + N) &&& 8388608 = if 8388608 ≤ N then 8388608 else 0 := by
  rw [show (8388608 : Nat) = 2 ^ 23 from rfl, and_pow, show (2:Nat) ^ 23 = 8388608 from rfl]
  by_cases hN : 8388608 ≤ N
  · rw [if_pos hN, if_pos (by unfold sgn32; cases neg <;> simp <;> omega)]
  · rw [if_neg hN, if_neg (by unfold sgn32; cases neg <;> simp <;> omega)]
/-- the bit is struck. -/
theorem strike52 (x : Nat) (hx : x < 18446744073709551616) : x &&& (18446744073709551615 - 4503599627370496) = x - 4503599627370496 * (x / 4503599627370496 % 2) := by
  rw [and_parts x _ 52, show (18446744073709551615 - 4503599627370496) / 2 ^ 52 = 4094 from rfl, show (18446744073709551615 - 4503599627370496) % 2 ^ 52 = 2 ^ 52 - 1 from rfl, Nat.and_two_pow_sub_one_eq_mod, Nat.mod_mod,
    and_parts (x / 2 ^ 52) 4094 1, show 4094 / 2 ^ 1 = 2 ^ 11 - 1 from rfl, show 4094 % 2 ^ 1 = 0 from rfl, Nat.and_two_pow_sub_one_eq_mod, Nat.and_zero, show (2:Nat) ^ 52 = 4503599627370496 from rfl, show (2:Nat) ^ 11 = 2048 from rfl, show (2:Nat) ^ 1 = 2 from rfl]
  omega
theorem strike23 (x : Nat) (hx : x < 4294967296) : x &&& (4294967295 - 8388608) = x - 8388608 * (x / 8388608 % 2) := by
  rw [and_parts x _ 23, show (4294967295 - 8388608) / 2 ^ 23 = 510 from rfl, show (4294967295 - 8388608) % 2 ^ 23 = 2 ^ 23 - 1 from rfl, Nat.and_two_pow_sub_one_eq_mod, Nat.mod_mod,
    and_parts (x / 2 ^ 23) 510 1, show 510 / 2 ^ 1 = 2 ^ 8 - 1 from rfl, show 510 % 2 ^ 1 = 0 from rfl, Nat.and_two_pow_sub_one_eq_mod, Nat.and_zero, show (2:Nat) ^ 23 = 8388608 from rfl, show (2:Nat) ^ 8 = 256 from rfl, show (2:Nat) ^ 1 = 2 from rfl]
  omega
/-- sign, fraction and exponent, put together. -/
theorem join64 (neg : Bool) {f K : Nat} (hf : f < 4503599627370496) (hK : K < 2046) : (sgn64 neg + f) ||| ((K + 1) * 4503599627370496) = sgn64 neg + ((K + 1) * 4503599627370496 + f) := by
  rw [← sgn64_or neg (x := f) (by omega), Nat.or_assoc, Nat.or_comm f, Nat.mul_comm (K + 1), show (4503599627370496 : Nat) = 2 ^ 52 from rfl, or_add (i := 52) hf, sgn64_or]
  rw [show (2:Nat) ^ 52 = 4503599627370496 from rfl]
  omega
theorem join32 (neg : Bool) {f K : Nat} (hf : f < 8388608) (hK : K < 254) : (sgn32 neg + f) ||| ((K + 1) * 8388608) = sgn32 neg + ((K + 1) * 8388608 + f) := by
  rw [← sgn32_or neg (x := f) (by omega), Nat.or_assoc, Nat.or_comm f, Nat.mul_comm (K + 1), show (8388608 : Nat) = 2 ^ 23 from rfl, or_add (i := 23) hf, sgn32_or]
  rw [show (2:Nat) ^ 23 = 8388608 from rfl]
  omega
theorem run_215 (b : Nat) (w : World) : (callFunc 215 #[.int .u64 b]).run Tryz.prog w = .ok (.value (.float .f64 b)) w := by kernel_rfl
/-- what a reading comes to: a finite number, or an infinity and the error. -/
def endOf (k : FloatKind) (inf sg R : Nat) : Value := if R < inf then .tuple #[.float k (sg + R : Nat), .nilIface] else .tuple #[.float k (sg + inf : Nat), .iface 160 (.int .i64 1)]
set_option maxHeartbeats 1000000 in
theorem pack64_any (neg : Bool) (N K : Nat) (w : World) (hN : N < 9007199254740992) (hK : K ≤ 4000) (h : K = 0 ∨ 4503599627370496 ≤ N) :
    Calls Tryz.prog 225 #[.int .u64 (sgn64 neg + N : Nat), .int .i64 ((K : Int) - 1074)] w fun e w' => e = .returned (endOf .f64 9218868437227405312 (sgn64 neg) (K * 4503599627370496 + N)) ∧ w' = w := by
  have hsg : sgn64 neg ≤ 9223372036854775808 := by unfold sgn64; cases neg <;> simp
  obtain ⟨x, hx⟩ : ∃ x, x = sgn64 neg + N := ⟨_, rfl⟩
  have hx64 : x < 18446744073709551616 := by omega
  have hb := bit52 neg hN
  rw [← hx] at hb ⊢
  have a1 := u64_and (x : Int) 4503599627370496 (by omega) (by omega) (by omega) (by omega)
  rw [Int.toNat_natCast, show (4503599627370496 : Int).toNat = 4503599627370496 from rfl, hb] at a1
  by_cases h52 : 4503599627370496 ≤ N
  · rw [if_pos h52] at a1
    have a2 : bits .and .u64 (x : Int) 4503599627370496 = 4503599627370496 := a1
    clear a1 hb
    rcases Nat.lt_or_ge K 2046 with hk | hk
    · obtain ⟨y, hy⟩ : ∃ y, y = sgn64 neg + (N - 4503599627370496) := ⟨_, rfl⟩
      obtain ⟨z, hz⟩ : ∃ z, z = sgn64 neg + (K * 4503599627370496 + N) := ⟨_, rfl⟩
      have a3 : bits .andNot .u64 (x : Int) 4503599627370496 = (y : Int) := by
        rw [u64_andNot (x : Int) 4503599627370496 (by omega) (by omega) (by omega) (by omega), Int.toNat_natCast, show (4503599627370496 : Int).toNat = 4503599627370496 from rfl, strike52 x hx64]
        have : x / 4503599627370496 % 2 = 1 := by rw [hx]; unfold sgn64; cases neg <;> simp <;> omega
        omega
      have a4 : bits .or .u64 (y : Int) ((1075 + ((K : Int) - 1074)) * 4503599627370496) = (z : Int) := by
        have e : (1075 + ((K : Int) - 1074)) * 4503599627370496 = (((K + 1) * 4503599627370496 : Nat) : Int) := by omega
        rw [e, u64_or_nat _ _ (by omega) (by omega), hy, join64 neg (by omega) hk, hz]
        omega
      have h215 := run_215 z
      have hres : endOf .f64 9218868437227405312 (sgn64 neg) (K * 4503599627370496 + N) = .tuple #[.float .f64 z, .nilIface] := by
        unfold endOf; rw [if_pos (by omega), hz]
      rw [hres]
      clear hres hz hy hx h52 hN hsg h
      go_enter Tryz.func225, Tryz.ntmps225
      go_wp2_with fail
      go_ret2
      exact ⟨rfl, rfl⟩
    · obtain ⟨y, hy⟩ : ∃ y, y = sgn64 neg := ⟨_, rfl⟩
      obtain ⟨z, hz⟩ : ∃ z, z = sgn64 neg + 9218868437227405312 := ⟨_, rfl⟩
      have a3 : bits .and .u64 (x : Int) 9223372036854775808 = (y : Int) := by
        rw [u64_and (x : Int) 9223372036854775808 (by omega) (by omega) (by omega) (by omega), Int.toNat_natCast, show (9223372036854775808 : Int).toNat = 2 ^ 63 from rfl, and_pow, show (2:Nat) ^ 63 = 9223372036854775808 from rfl, hx, hy]
        unfold sgn64; cases neg
        · rw [if_neg (by simp; omega)]; rfl
        · rw [if_pos (by simp; omega)]; rfl
      have a4 : bits .or .u64 (y : Int) 9218868437227405312 = (z : Int) := by
        have := u64_or_nat y 9218868437227405312 (by omega) (by omega)
        rw [hy, sgn64_or neg (by omega), ← hz] at this
        rw [hy]; exact this
      have h215 := run_215 z
      have hres : endOf .f64 9218868437227405312 (sgn64 neg) (K * 4503599627370496 + N) = .tuple #[.float .f64 z, .iface 160 (.int .i64 1)] := by
        unfold endOf; rw [if_neg (by omega), hz]
      rw [hres]
      clear hres hz hy hx h52 hN hsg h
      go_enter Tryz.func225, Tryz.ntmps225
      go_wp2_with fail
      go_ret2
      exact ⟨rfl, rfl⟩
  · rw [if_neg h52] at a1
    have a2 : bits .and .u64 (x : Int) 4503599627370496 = 0 := a1
    clear a1 hb
    have hK0 : K = 0 := by omega
    have h215 := run_215 x
    have hres : endOf .f64 9218868437227405312 (sgn64 neg) (K * 4503599627370496 + N) = .tuple #[.float .f64 x, .nilIface] := by
      unfold endOf; rw [hK0, if_pos (by omega), hx, Nat.zero_mul, Nat.zero_add]
    rw [hres]
    clear hres hx h52 hN hsg h hK0
    go_enter Tryz.func225, Tryz.ntmps225
    go_wp2_with fail
    go_ret2
    exact ⟨rfl, rfl⟩
theorem run_209' (b : Nat) (w : World) : (callFunc 209 #[.int .u32 b]).run Tryz.prog w = .ok (.value (.float .f32 b)) w := by kernel_rfl
set_option maxHeartbeats 1000000 in
theorem pack32_any (neg : Bool) (N K : Nat) (w : World) (hN : N < 16777216) (hK : K ≤ 4000) (h : K = 0 ∨ 8388608 ≤ N) :
    Calls Tryz.prog 223 #[.int .u32 (sgn32 neg + N : Nat), .int .i64 ((K : Int) - 149)] w fun e w' => e = .returned (endOf .f32 2139095040 (sgn32 neg) (K * 8388608 + N)) ∧ w' = w := by
  have hsg : sgn32 neg ≤ 2147483648 := by unfold sgn32; cases neg <;> simp
  obtain ⟨x, hx⟩ : ∃ x, x = sgn32 neg + N := ⟨_, rfl⟩
  have hx64 : x < 4294967296 := by omega
  have hb := bit23 neg hN
  rw [← hx] at hb ⊢
  have a1 := u32_and (x : Int) 8388608 (by omega) (by omega) (by omega) (by omega)
  rw [Int.toNat_natCast, show (8388608 : Int).toNat = 8388608 from rfl, hb] at a1
  by_cases h52 : 8388608 ≤ N
  · rw [if_pos h52] at a1
    have a2 : bits .and .u32 (x : Int) 8388608 = 8388608 := a1
    clear a1 hb
    rcases Nat.lt_or_ge K 254 with hk | hk
    · obtain ⟨y, hy⟩ : ∃ y, y = sgn32 neg + (N - 8388608) := ⟨_, rfl⟩
      obtain ⟨z, hz⟩ : ∃ z, z = sgn32 neg + (K * 8388608 + N) := ⟨_, rfl⟩
      have a3 : bits .andNot .u32 (x : Int) 8388608 = (y : Int) := by
        rw [u32_andNot (x : Int) 8388608 (by omega) (by omega) (by omega) (by omega), Int.toNat_natCast, show (8388608 : Int).toNat = 8388608 from rfl, strike23 x hx64]
        have : x / 8388608 % 2 = 1 := by rw [hx]; unfold sgn32; cases neg <;> simp <;> omega
        omega
      have a4 : bits .or .u32 (y : Int) ((150 + ((K : Int) - 149)) * 8388608) = (z : Int) := by
        have e : (150 + ((K : Int) - 149)) * 8388608 = (((K + 1) * 8388608 : Nat) : Int) := by omega
        rw [e, u32_or_nat _ _ (by omega) (by omega), hy, join32 neg (by omega) hk, hz]
        omega
      have h215 := run_209' z
      have hres : endOf .f32 2139095040 (sgn32 neg) (K * 8388608 + N) = .tuple #[.float .f32 z, .nilIface] := by
        unfold endOf; rw [if_pos (by omega), hz]
      rw [hres]
      clear hres hz hy hx h52 hN hsg h
      go_enter Tryz.func223, Tryz.ntmps223
      go_wp2_with fail
      go_ret2
      exact ⟨rfl, rfl⟩
    · obtain ⟨y, hy⟩ : ∃ y, y = sgn32 neg := ⟨_, rfl⟩
      obtain ⟨z, hz⟩ : ∃ z, z = sgn32 neg + 2139095040 := ⟨_, rfl⟩
      have a3 : bits .and .u32 (x : Int) 2147483648 = (y : Int) := by
        rw [u32_and (x : Int) 2147483648 (by omega) (by omega) (by omega) (by omega), Int.toNat_natCast, show (2147483648 : Int).toNat = 2 ^ 31 from rfl, and_pow, show (2:Nat) ^ 31 = 2147483648 from rfl, hx, hy]
        unfold sgn32; cases neg
        · rw [if_neg (by simp; omega)]; rfl
        · rw [if_pos (by simp; omega)]; rfl
      have a4 : bits .or .u32 (y : Int) 2139095040 = (z : Int) := by
        have := u32_or_nat y 2139095040 (by omega) (by omega)
        rw [hy, sgn32_or neg (by omega), ← hz] at this
        rw [hy]; exact this
      have h215 := run_209' z
      have hres : endOf .f32 2139095040 (sgn32 neg) (K * 8388608 + N) = .tuple #[.float .f32 z, .iface 160 (.int .i64 1)] := by
        unfold endOf; rw [if_neg (by omega), hz]
      rw [hres]
      clear hres hz hy hx h52 hN hsg h
      go_enter Tryz.func223, Tryz.ntmps223
      go_wp2_with fail
      go_ret2
      exact ⟨rfl, rfl⟩
  · rw [if_neg h52] at a1
    have a2 : bits .and .u32 (x : Int) 8388608 = 0 := a1
    clear a1 hb
    have hK0 : K = 0 := by omega
    have h215 := run_209' x
    have hres : endOf .f32 2139095040 (sgn32 neg) (K * 8388608 + N) = .tuple #[.float .f32 x, .nilIface] := by
      unfold endOf; rw [hK0, if_pos (by omega), hx, Nat.zero_mul, Nat.zero_add]
    rw [hres]
    clear hres hx h52 hN hsg h hK0
    go_enter Tryz.func223, Tryz.ntmps223
    go_wp2_with fail
    go_ret2
    exact ⟨rfl, rfl⟩
end Go.Proofs.YtdfodfflkmcgpaaGreatDoor
/- parseFloat64 and parseFloat32: a decimal of at most nineteen digits is read as its rung. -/
namespace Go.Proofs.YtdfodfflkmcgpaaGreatDoor
open Go.RowKit Uscale Pow10
set_option linter.unusedVariables false
set_option maxRecDepth 100000
theorem len64_b (d : Nat) (w : World) (h0 : d ≠ 0) (h1 : d < 18446744073709551616) : Calls Tryz.prog 140 #[.int .u64 d] w fun e w' => e = .returned (.int .i64 (Parse.parseB d : Nat)) ∧ w' = w := by
  have h2 := sh_of (x := d) (k := d.log2) (Nat.log2_self_le h0) Nat.lt_log2_self (by have := (Nat.log2_lt (n := d) (k := 64) h0).2 h1; omega)
  have h3 : (64 - (sh d : Int)) = ((Parse.parseB d : Nat) : Int) := by
    have := (Nat.log2_lt (n := d) (k := 64) h0).2 h1
    unfold Parse.parseB; omega
  rw [← h3]
  exact len64_sh d w h0 h1
theorem unmin32 (w : World) : Calls Tryz.prog 197 #[.int .u64 16777216] w fun e w' => e = .returned (.int .u64 67108862) ∧ w' = w := by
  go_enter Tryz.func197, Tryz.ntmps197
  go_wp2_with fail
  go_ret
  exact ⟨congrArg (fun n => Ending.returned (.int .u64 n)) (by decide +kernel), rfl⟩
set_option maxHeartbeats 2000000 in
theorem parse32_any {B : Nat} (neg : Bool) (d : Nat) (p : Int) (w : World) (hG : Good B w) (hB : B ≤ w.heap.size) (hd0 : 0 < d) (hd : d < 18446744073709551616) (hp0 : -345 ≤ p) (hp1 : p ≤ 325) :
    Calls Tryz.prog 211 #[.int .u64 d, .int .i64 p, .int .u32 (sgn32 neg : Nat)] w fun e w' => e = .returned (endOf .f32 2139095040 (sgn32 neg) (Parse.parseR 23 149 d p)) ∧ Below B w w' := by
  obtain ⟨-, hpk⟩ := Parse.parse_RN (t := 23) (L := 149) (p := p) (by omega) (by omega) hd0 hd hp0 hp1
  have hlen := fun w => len64_b d w (by omega) hd
  have hb64 : Parse.parseB d ≤ 64 := by unfold Parse.parseB; have := (Nat.log2_lt (n := d) (k := 64) (by omega)).2 hd; omega
  have hb1 : 1 ≤ Parse.parseB d := by unfold Parse.parseB; omega
  have hlow : 2 ^ (Parse.parseB d - 1) ≤ d := by unfold Parse.parseB; rw [Nat.add_sub_cancel]; exact Nat.log2_self_le (by omega)
  have hup : d < 2 ^ Parse.parseB d := by unfold Parse.parseB; exact Nat.lt_log2_self
  obtain ⟨R, hR⟩ : ∃ R, R = Parse.parseR 23 149 d p := ⟨_, rfl⟩
  rw [← hR]
  unfold Parse.parseR Parse.parseK at hR
  unfold Parse.parseK at hpk
  obtain ⟨e, he⟩ : ∃ e, e = Parse.parseE 23 149 d p := ⟨_, rfl⟩
  obtain ⟨s, hs⟩ : ∃ s, s = Parse.parseS 23 149 d p := ⟨_, rfl⟩
  obtain ⟨U, hU⟩ : ∃ U, U = Parse.parseU 23 149 d p := ⟨_, rfl⟩
  rw [← he, ← hs, ← hU] at hR hpk
  have hsE : s = 61 - e - Parse.parseB d - Farey.lp p := by rw [hs, he]; rfl
  have heE : e = min 149 (23 + 1 - Parse.parseB d - Farey.lp p) := by rw [he]; rfl
  have hUE : U = Scaled.exactU (d * 2 ^ (64 - Parse.parseB d)) p s.toNat := by rw [hU, hs]; rfl
  clear he hs hU
  obtain ⟨b, hb⟩ : ∃ b, b = Parse.parseB d := ⟨_, rfl⟩
  rw [← hb] at hlen hb64 hb1 hlow hup hsE heE hUE
  clear hb
  obtain ⟨l, hl⟩ : ∃ l, l = Farey.lp p := ⟨_, rfl⟩
  rw [← hl] at hsE heE
  have hl0 : -1200 ≤ l := by rw [hl]; unfold Farey.lp; omega
  have hl1 : l ≤ 1200 := by rw [hl]; unfold Farey.lp; omega
  have hlp : p * 108853 / 32768 = l := by rw [hl]; rfl
  clear hl
  have hs8 : 8 ≤ s := by omega
  have hmin : min 149 (24 - (b : Int) - l) = e := by omega
  have he1 : e ≤ 149 := by omega
  have he0 : -1300 ≤ e := by omega
  have hx0 : 9223372036854775808 ≤ d * 2 ^ (64 - b) := by
    have := Nat.mul_le_mul_right (2 ^ (64 - b)) hlow
    rw [← Nat.pow_add, show b - 1 + (64 - b) = 63 by omega] at this
    exact this
  have hx1 : d * 2 ^ (64 - b) < 18446744073709551616 := by
    have := Nat.mul_lt_mul_of_pos_right hup (Nat.two_pow_pos (64 - b))
    rw [← Nat.pow_add, show b + (64 - b) = 64 by omega] at this
    exact this
  have hxw : IntKind.u64.wrap ((d : Int) * 2 ^ (64 - b)) = ((d * 2 ^ (64 - b) : Nat) : Int) := by
    have : ((d : Int) * 2 ^ (64 - b)) = ((d * 2 ^ (64 - b) : Nat) : Int) := by simp
    rw [this, u64_wrap_id _ (by omega) (by omega)]
  have hsg : sgn32 neg ≤ 2147483648 := by unfold sgn32; cases neg <;> simp
  have HLEN := Lib.hid hlen
  have HX := Lib.hid (And.intro hx0 (And.intro hx1 hxw))
  have HE := Lib.hid heE
  have HS := Lib.hid hsE
  have HU := Lib.hid hUE
  have HR := Lib.hid hR
  have HK := Lib.hid hpk
  have HM := Lib.hid hmin
  clear hlen hx0 hx1 hxw heE hsE hUE hR hpk hmin hlow hup
  go_enter Tryz.func211, Tryz.ntmps211
  go_wp2_with fail
  refine (HLEN.out _).mono ?_
  rintro e' w2 ⟨rfl, hw⟩
  subst hw
  go_wp2_with fail
  refine (log2Pow10_to p l _ (by omega) (by omega) hlp).mono ?_
  rintro e' w3 ⟨rfl, hw⟩
  subst hw
  have hmin := HM.out
  go_wp2_with fail
  refine (prescale_fresh (e - (64 - (b : Int))) p l s _ _ _ _ hG hB (by omega) (by omega) (by omega) (by omega) (by omega) (by omega) (by have := HS.out; omega)).mono ?_
  rintro e' w4 ⟨rfl, hw⟩
  rw [hw]
  clear hmin
  obtain ⟨hi, hhi⟩ : ∃ x, x = Pow10.hiOf (p + 348).toNat := ⟨_, rfl⟩
  obtain ⟨lo, hlo⟩ : ∃ x, x = Pow10.loOf (p + 348).toNat := ⟨_, rfl⟩
  have HT := Lib.hid (And.intro hhi hlo)
  rw [← hhi, ← hlo]
  clear hhi hlo
  have hbel : Below B w3 (w3.alloc (.cells #[.int .u64 hi, .int .u64 lo, .int .i64 s] 205)) := (Below.refl _ _).alloc hB _
  rcases Int.lt_or_le s 64 with hs64 | hs64
  · have ⟨k1, k2, k3⟩ := HK.out hs64
    have hs64b : decide (64 ≤ s) = false := decide_eq_false (by omega)
    have HP := Lib.hid (And.intro k1 k2)
    clear k1 k2
    go_wp2_with fail
    clear hs64b
    obtain ⟨q1, q2, q3, -, -⟩ := Scaled.row_at (p := p) (by omega) (by omega)
    rw [← HT.out.1] at q1 q2
    rw [← HT.out.2] at q3
    have hUx : uscaleF ((d * 2 ^ (64 - b) : Nat) : Int).toNat hi lo s.toNat = U := by
      rw [Int.toNat_natCast, HT.out.1, HT.out.2, Scaled.parse hp0 hp1 (by omega) HX.out.1 HX.out.2.1, ← HU.out]
    rw [HX.out.2.2]
    refine (uscale_int ((d * 2 ^ (64 - b) : Nat) : Int) s hi lo _ _ (by have := HX.out.1; omega) (by have := HX.out.2.1; omega) q1 q2 q3 (by omega) hs64 (by simp) (by simp) (by simp)).mono ?_
    rintro e' w5 ⟨rfl, n, hw5⟩
    rw [hw5, hUx]
    have hbel2 := below_drewN hbel n
    clear hUx q1 q2 q3 hbel hw hw5
    generalize (w3.alloc (.cells #[.int .u64 hi, .int .u64 lo, .int .i64 s] 205)).drewN n = W at *
    go_wp2_with fail
    refine (unmin32 _).mono ?_
    rintro e' w6 ⟨rfl, hw6⟩
    rw [hw6]
    clear hw6
    by_cases hbig : 67108862 ≤ U
    · -- ARM
      have hb1 : decide ((U : Int) ≥ 67108862) = true := decide_eq_true (by omega)
      go_wp2_with fail
      refine (bool2_i true _).mono ?_
      rintro e' w7 ⟨rfl, hw7⟩
      rw [hw7]
      clear hw7
      clear hb1
      obtain ⟨V, hV⟩ : ∃ V, V = Parse.halfU U := ⟨_, rfl⟩
      have a1 : bits .and .u64 (U : Int) 1 = (U : Int) % 2 := u64_and1 _ (by omega) (by omega)
      have a2 : bits .or .u64 ((U : Int) / 2) ((U : Int) % 2) = (V : Int) := by
        have e1 : ((U : Int) / 2) = ((U / 2 : Nat) : Int) := by omega
        have e2 : ((U : Int) % 2) = ((U % 2 : Nat) : Int) := by omega
        rw [e1, e2, u64_or_nat _ _ (by omega) (by omega), hV]
        unfold Parse.halfU
        rcases Nat.mod_two_eq_zero_or_one U with h | h
        · rw [h, if_neg (by omega), or_zero]
        · rw [h, if_pos rfl, or_one]; congr 1; omega
      have hVl : V < 2 ^ (23 + 4) := by rw [hV]; unfold Parse.halfU; split <;> omega
      obtain ⟨M, hM⟩ : ∃ M, M = Parse.roundU V := ⟨_, rfl⟩
      have hMV : ((V : Int) + 1 + (V : Int) / 4 % 2) / 4 = (M : Int) := by rw [hM]; unfold Parse.roundU; omega
      have hPN : Parse.parseN 23 U = M := by
        unfold Parse.parseN
        rw [if_pos (show 2 ^ (23 + 3) - 2 ≤ U by omega), hM, hV]
      obtain ⟨K, hK⟩ : ∃ K, K = (149 - e).toNat + 1 := ⟨_, rfl⟩
      have hpk1 : K = 0 ∨ 8388608 ≤ M := by
        have := HP.out.1
        rw [hPN, if_pos (show 2 ^ (23 + 3) - 2 ≤ U by omega)] at this
        rw [hK]; exact this
      have hpk2 : M < 16777216 := by
        have := HP.out.2
        rw [hPN] at this
        exact this
      have hRK : R = K * 8388608 + M := by
        rw [HR.out, if_neg (by omega), hPN, if_pos (show 2 ^ (23 + 3) - 2 ≤ U by omega), hK]
        rfl
      have hKe : -(e - 1) = (K : Int) - 149 := by omega
      have hKb : K ≤ 4000 := by omega
      have a3 : bits .or .u32 (sgn32 neg : Nat) (M : Int) = ((sgn32 neg + M : Nat) : Int) := by
        rw [u32_or_nat _ _ (by omega) (by omega), sgn32_or neg (by omega)]
      have HH := Lib.hid (And.intro hMV (And.intro hRK hKe))
      clear hV hM hPN hK hMV hRK hKe
      go_wp2_with fail
      refine (round_any (V : Int) _ (by omega) (by omega)).mono ?_
      rintro e' w8 ⟨rfl, hw8⟩
      rw [hw8, HH.out.1]
      clear hw8 w8 a1 a2
      go_wp2_with fail
      rw [HH.out.2.2]
      refine (pack32_any neg M K _ hpk2 hKb hpk1).mono ?_
      rintro e' w9 ⟨rfl, hw9⟩
      rw [hw9]
      clear hw9 w9
      have hRK := HH.out.2.1
      rw [← hRK]
      unfold endOf
      by_cases hin : R < 2139095040
      · rw [if_pos hin]
        go_wp2_with fail
        go_ret2
        exact ⟨by unfold endOf; rw [if_pos hin, hRK]; rfl, hbel2⟩
      · rw [if_neg hin]
        go_wp2_with fail
        go_ret2
        exact ⟨by unfold endOf; rw [if_neg hin]; rfl, hbel2⟩
    · -- ARM
      have hb1 : decide ((U : Int) ≥ 67108862) = false := decide_eq_false (by omega)
      go_wp2_with fail
      refine (bool2_i false _).mono ?_
      rintro e' w7 ⟨rfl, hw7⟩
      rw [hw7]
      clear hw7
      clear hb1
      obtain ⟨V, hV⟩ : ∃ V, V = U := ⟨_, rfl⟩
      have a1 : bits .and .u64 (U : Int) 1 = (U : Int) % 2 := u64_and1 _ (by omega) (by omega)
      have a2 : bits .or .u64 (U : Int) ((U : Int) % 2) = (V : Int) := by
        have e2 : ((U : Int) % 2) = ((U % 2 : Nat) : Int) := by omega
        rw [e2, u64_or_nat _ _ (by omega) (by omega), hV]
        rcases Nat.mod_two_eq_zero_or_one U with h | h
        · rw [h, or_zero]
        · rw [h, or_one]; congr 1; omega
      have hVl : V < 2 ^ (23 + 4) := by rw [hV]; exact k3
      obtain ⟨M, hM⟩ : ∃ M, M = Parse.roundU V := ⟨_, rfl⟩
      have hMV : ((V : Int) + 1 + (V : Int) / 4 % 2) / 4 = (M : Int) := by rw [hM]; unfold Parse.roundU; omega
      have hPN : Parse.parseN 23 U = M := by
        unfold Parse.parseN
        rw [if_neg (show ¬ 2 ^ (23 + 3) - 2 ≤ U by omega), hM, hV]
      obtain ⟨K, hK⟩ : ∃ K, K = (149 - e).toNat + 0 := ⟨_, rfl⟩
      have hpk1 : K = 0 ∨ 8388608 ≤ M := by
        have := HP.out.1
        rw [hPN, if_neg (show ¬ 2 ^ (23 + 3) - 2 ≤ U by omega)] at this
        rw [hK]; exact this
      have hpk2 : M < 16777216 := by
        have := HP.out.2
        rw [hPN] at this
        exact this
      have hRK : R = K * 8388608 + M := by
        rw [HR.out, if_neg (by omega), hPN, if_neg (show ¬ 2 ^ (23 + 3) - 2 ≤ U by omega), hK]
        rfl
      have hKe : -e = (K : Int) - 149 := by omega
      have hKb : K ≤ 4000 := by omega
      have a3 : bits .or .u32 (sgn32 neg : Nat) (M : Int) = ((sgn32 neg + M : Nat) : Int) := by
        rw [u32_or_nat _ _ (by omega) (by omega), sgn32_or neg (by omega)]
      have HH := Lib.hid (And.intro hMV (And.intro hRK hKe))
      clear hV hM hPN hK hMV hRK hKe
      go_wp2_with fail
      refine (round_any (V : Int) _ (by omega) (by omega)).mono ?_
      rintro e' w8 ⟨rfl, hw8⟩
      rw [hw8, HH.out.1]
      clear hw8 w8 a1 a2
      go_wp2_with fail
      rw [HH.out.2.2]
      refine (pack32_any neg M K _ hpk2 hKb hpk1).mono ?_
      rintro e' w9 ⟨rfl, hw9⟩
      rw [hw9]
      clear hw9 w9
      have hRK := HH.out.2.1
      rw [← hRK]
      unfold endOf
      by_cases hin : R < 2139095040
      · rw [if_pos hin]
        go_wp2_with fail
        go_ret2
        exact ⟨by unfold endOf; rw [if_pos hin, hRK]; rfl, hbel2⟩
      · rw [if_neg hin]
        go_wp2_with fail
        go_ret2
        exact ⟨by unfold endOf; rw [if_neg hin]; rfl, hbel2⟩
  · have hs64b : decide (64 ≤ s) = true := decide_eq_true hs64
    have eR : R = 0 := by rw [HR.out, if_pos hs64]
    have a1 : bits .or .u32 (sgn32 neg : Nat) 0 = ((sgn32 neg : Nat) : Int) := by
      have := u32_or_nat (sgn32 neg) 0 (by omega) (by omega)
      rwa [Nat.or_zero] at this
    have h215 := run_209' (sgn32 neg)
    have hres : endOf .f32 2139095040 (sgn32 neg) R = .tuple #[.float .f32 (sgn32 neg), .nilIface] := by
      rw [eR]; unfold endOf; rw [if_pos (by omega), Nat.add_zero]
    have HRES := Lib.hid hres
    clear hres eR
    go_wp2_with fail
    go_ret2
    exact ⟨by rw [HRES.out]; rfl, hbel⟩
theorem unmin64 (w : World) : Calls Tryz.prog 197 #[.int .u64 9007199254740992] w fun e w' => e = .returned (.int .u64 36028797018963966) ∧ w' = w := by
  go_enter Tryz.func197, Tryz.ntmps197
  go_wp2_with fail
  go_ret
  exact ⟨congrArg (fun n => Ending.returned (.int .u64 n)) (by decide +kernel), rfl⟩
set_option maxHeartbeats 2000000 in
theorem parse64_any {B : Nat} (neg : Bool) (d : Nat) (p : Int) (w : World) (hG : Good B w) (hB : B ≤ w.heap.size) (hd0 : 0 < d) (hd : d < 18446744073709551616) (hp0 : -345 ≤ p) (hp1 : p ≤ 325) :
    Calls Tryz.prog 217 #[.int .u64 d, .int .i64 p, .int .u64 (sgn64 neg : Nat)] w fun e w' => e = .returned (endOf .f64 9218868437227405312 (sgn64 neg) (Parse.parseR 52 1074 d p)) ∧ Below B w w' := by
  obtain ⟨-, hpk⟩ := Parse.parse_RN (t := 52) (L := 1074) (p := p) (by omega) (by omega) hd0 hd hp0 hp1
  have hlen := fun w => len64_b d w (by omega) hd
  have hb64 : Parse.parseB d ≤ 64 := by unfold Parse.parseB; have := (Nat.log2_lt (n := d) (k := 64) (by omega)).2 hd; omega
  have hb1 : 1 ≤ Parse.parseB d := by unfold Parse.parseB; omega
  have hlow : 2 ^ (Parse.parseB d - 1) ≤ d := by unfold Parse.parseB; rw [Nat.add_sub_cancel]; exact Nat.log2_self_le (by omega)
  have hup : d < 2 ^ Parse.parseB d := by unfold Parse.parseB; exact Nat.lt_log2_self
  obtain ⟨R, hR⟩ : ∃ R, R = Parse.parseR 52 1074 d p := ⟨_, rfl⟩
  rw [← hR]
  unfold Parse.parseR Parse.parseK at hR
  unfold Parse.parseK at hpk
  obtain ⟨e, he⟩ : ∃ e, e = Parse.parseE 52 1074 d p := ⟨_, rfl⟩
  obtain ⟨s, hs⟩ : ∃ s, s = Parse.parseS 52 1074 d p := ⟨_, rfl⟩
  obtain ⟨U, hU⟩ : ∃ U, U = Parse.parseU 52 1074 d p := ⟨_, rfl⟩
  rw [← he, ← hs, ← hU] at hR hpk
  have hsE : s = 61 - e - Parse.parseB d - Farey.lp p := by rw [hs, he]; rfl
  have heE : e = min 1074 (52 + 1 - Parse.parseB d - Farey.lp p) := by rw [he]; rfl
  have hUE : U = Scaled.exactU (d * 2 ^ (64 - Parse.parseB d)) p s.toNat := by rw [hU, hs]; rfl
  clear he hs hU
  obtain ⟨b, hb⟩ : ∃ b, b = Parse.parseB d := ⟨_, rfl⟩
  rw [← hb] at hlen hb64 hb1 hlow hup hsE heE hUE
  clear hb
  obtain ⟨l, hl⟩ : ∃ l, l = Farey.lp p := ⟨_, rfl⟩
  rw [← hl] at hsE heE
  have hl0 : -1200 ≤ l := by rw [hl]; unfold Farey.lp; omega
  have hl1 : l ≤ 1200 := by rw [hl]; unfold Farey.lp; omega
  have hlp : p * 108853 / 32768 = l := by rw [hl]; rfl
  clear hl
  have hs8 : 8 ≤ s := by omega
  have hmin : min 1074 (53 - (b : Int) - l) = e := by omega
  have he1 : e ≤ 1074 := by omega
  have he0 : -1300 ≤ e := by omega
  have hx0 : 9223372036854775808 ≤ d * 2 ^ (64 - b) := by
    have := Nat.mul_le_mul_right (2 ^ (64 - b)) hlow
    rw [← Nat.pow_add, show b - 1 + (64 - b) = 63 by omega] at this
    exact this
  have hx1 : d * 2 ^ (64 - b) < 18446744073709551616 := by
    have := Nat.mul_lt_mul_of_pos_right hup (Nat.two_pow_pos (64 - b))
    rw [← Nat.pow_add, show b + (64 - b) = 64 by omega] at this
    exact this
  have hxw : IntKind.u64.wrap ((d : Int) * 2 ^ (64 - b)) = ((d * 2 ^ (64 - b) : Nat) : Int) := by
    have : ((d : Int) * 2 ^ (64 - b)) = ((d * 2 ^ (64 - b) : Nat) : Int) := by simp
    rw [this, u64_wrap_id _ (by omega) (by omega)]
  have hsg : sgn64 neg ≤ 9223372036854775808 := by unfold sgn64; cases neg <;> simp
  have HLEN := Lib.hid hlen
  have HX := Lib.hid (And.intro hx0 (And.intro hx1 hxw))
  have HE := Lib.hid heE
  have HS := Lib.hid hsE
  have HU := Lib.hid hUE
  have HR := Lib.hid hR
  have HK := Lib.hid hpk
  have HM := Lib.hid hmin
  clear hlen hx0 hx1 hxw heE hsE hUE hR hpk hmin hlow hup
  go_enter Tryz.func217, Tryz.ntmps217
  go_wp2_with fail
  refine (HLEN.out _).mono ?_
  rintro e' w2 ⟨rfl, hw⟩
  subst hw
  go_wp2_with fail
  refine (log2Pow10_to p l _ (by omega) (by omega) hlp).mono ?_
  rintro e' w3 ⟨rfl, hw⟩
  subst hw
  have hmin := HM.out
  go_wp2_with fail
  refine (prescale_fresh (e - (64 - (b : Int))) p l s _ _ _ _ hG hB (by omega) (by omega) (by omega) (by omega) (by omega) (by omega) (by have := HS.out; omega)).mono ?_
  rintro e' w4 ⟨rfl, hw⟩
  rw [hw]
  clear hmin
  obtain ⟨hi, hhi⟩ : ∃ x, x = Pow10.hiOf (p + 348).toNat := ⟨_, rfl⟩
  obtain ⟨lo, hlo⟩ : ∃ x, x = Pow10.loOf (p + 348).toNat := ⟨_, rfl⟩
  have HT := Lib.hid (And.intro hhi hlo)
  rw [← hhi, ← hlo]
  clear hhi hlo
  have hbel : Below B w3 (w3.alloc (.cells #[.int .u64 hi, .int .u64 lo, .int .i64 s] 205)) := (Below.refl _ _).alloc hB _
  rcases Int.lt_or_le s 64 with hs64 | hs64
  · have ⟨k1, k2, k3⟩ := HK.out hs64
    have hs64b : decide (64 ≤ s) = false := decide_eq_false (by omega)
    have HP := Lib.hid (And.intro k1 k2)
    clear k1 k2
    go_wp2_with fail
    clear hs64b
    obtain ⟨q1, q2, q3, -, -⟩ := Scaled.row_at (p := p) (by omega) (by omega)
    rw [← HT.out.1] at q1 q2
    rw [← HT.out.2] at q3
    have hUx : uscaleF ((d * 2 ^ (64 - b) : Nat) : Int).toNat hi lo s.toNat = U := by
      rw [Int.toNat_natCast, HT.out.1, HT.out.2, Scaled.parse hp0 hp1 (by omega) HX.out.1 HX.out.2.1, ← HU.out]
    rw [HX.out.2.2]
    refine (uscale_int ((d * 2 ^ (64 - b) : Nat) : Int) s hi lo _ _ (by have := HX.out.1; omega) (by have := HX.out.2.1; omega) q1 q2 q3 (by omega) hs64 (by simp) (by simp) (by simp)).mono ?_
    rintro e' w5 ⟨rfl, n, hw5⟩
    rw [hw5, hUx]
    have hbel2 := below_drewN hbel n
    clear hUx q1 q2 q3 hbel hw hw5
    generalize (w3.alloc (.cells #[.int .u64 hi, .int .u64 lo, .int .i64 s] 205)).drewN n = W at *
    go_wp2_with fail
    refine (unmin64 _).mono ?_
    rintro e' w6 ⟨rfl, hw6⟩
    rw [hw6]
    clear hw6
    by_cases hbig : 36028797018963966 ≤ U
    · -- ARM
      have hb1 : decide ((U : Int) ≥ 36028797018963966) = true := decide_eq_true (by omega)
      go_wp2_with fail
      refine (bool2_i true _).mono ?_
      rintro e' w7 ⟨rfl, hw7⟩
      rw [hw7]
      clear hw7
      clear hb1
      obtain ⟨V, hV⟩ : ∃ V, V = Parse.halfU U := ⟨_, rfl⟩
      have a1 : bits .and .u64 (U : Int) 1 = (U : Int) % 2 := u64_and1 _ (by omega) (by omega)
      have a2 : bits .or .u64 ((U : Int) / 2) ((U : Int) % 2) = (V : Int) := by
        have e1 : ((U : Int) / 2) = ((U / 2 : Nat) : Int) := by omega
        have e2 : ((U : Int) % 2) = ((U % 2 : Nat) : Int) := by omega
        rw [e1, e2, u64_or_nat _ _ (by omega) (by omega), hV]
        unfold Parse.halfU
        rcases Nat.mod_two_eq_zero_or_one U with h | h
        · rw [h, if_neg (by omega), or_zero]
        · rw [h, if_pos rfl, or_one]; congr 1; omega
      have hVl : V < 2 ^ (52 + 4) := by rw [hV]; unfold Parse.halfU; split <;> omega
      obtain ⟨M, hM⟩ : ∃ M, M = Parse.roundU V := ⟨_, rfl⟩
      have hMV : ((V : Int) + 1 + (V : Int) / 4 % 2) / 4 = (M : Int) := by rw [hM]; unfold Parse.roundU; omega
      have hPN : Parse.parseN 52 U = M := by
        unfold Parse.parseN
        rw [if_pos (show 2 ^ (52 + 3) - 2 ≤ U by omega), hM, hV]
      obtain ⟨K, hK⟩ : ∃ K, K = (1074 - e).toNat + 1 := ⟨_, rfl⟩
      have hpk1 : K = 0 ∨ 4503599627370496 ≤ M := by
        have := HP.out.1
        rw [hPN, if_pos (show 2 ^ (52 + 3) - 2 ≤ U by omega)] at this
        rw [hK]; exact this
      have hpk2 : M < 9007199254740992 := by
        have := HP.out.2
        rw [hPN] at this
        exact this
      have hRK : R = K * 4503599627370496 + M := by
        rw [HR.out, if_neg (by omega), hPN, if_pos (show 2 ^ (52 + 3) - 2 ≤ U by omega), hK]
        rfl
      have hKe : -(e - 1) = (K : Int) - 1074 := by omega
      have hKb : K ≤ 4000 := by omega
      have a3 : bits .or .u64 (sgn64 neg : Nat) (M : Int) = ((sgn64 neg + M : Nat) : Int) := by
        rw [u64_or_nat _ _ (by omega) (by omega), sgn64_or neg (by omega)]
      have HH := Lib.hid (And.intro hMV (And.intro hRK hKe))
      clear hV hM hPN hK hMV hRK hKe
      go_wp2_with fail
      refine (round_any (V : Int) _ (by omega) (by omega)).mono ?_
      rintro e' w8 ⟨rfl, hw8⟩
      rw [hw8, HH.out.1]
      clear hw8 w8 a1 a2
      go_wp2_with fail
      rw [HH.out.2.2]
      refine (pack64_any neg M K _ hpk2 hKb hpk1).mono ?_
      rintro e' w9 ⟨rfl, hw9⟩
      rw [hw9]
      clear hw9 w9
      have hRK := HH.out.2.1
      rw [← hRK]
      unfold endOf
      by_cases hin : R < 9218868437227405312
      · rw [if_pos hin]
        go_wp2_with fail
        go_ret2
        exact ⟨by unfold endOf; rw [if_pos hin, hRK]; rfl, hbel2⟩
      · rw [if_neg hin]
        go_wp2_with fail
        go_ret2
        exact ⟨by unfold endOf; rw [if_neg hin]; rfl, hbel2⟩
    · -- ARM
      have hb1 : decide ((U : Int) ≥ 36028797018963966) = false := decide_eq_false (by omega)
      go_wp2_with fail
      refine (bool2_i false _).mono ?_
      rintro e' w7 ⟨rfl, hw7⟩
      rw [hw7]
      clear hw7
      clear hb1
      obtain ⟨V, hV⟩ : ∃ V, V = U := ⟨_, rfl⟩
      have a1 : bits .and .u64 (U : Int) 1 = (U : Int) % 2 := u64_and1 _ (by omega) (by omega)
      have a2 : bits .or .u64 (U : Int) ((U : Int) % 2) = (V : Int) := by
        have e2 : ((U : Int) % 2) = ((U % 2 : Nat) : Int) := by omega
        rw [e2, u64_or_nat _ _ (by omega) (by omega), hV]
        rcases Nat.mod_two_eq_zero_or_one U with h | h
        · rw [h, or_zero]
        · rw [h, or_one]; congr 1; omega
      have hVl : V < 2 ^ (52 + 4) := by rw [hV]; exact k3
      obtain ⟨M, hM⟩ : ∃ M, M = Parse.roundU V := ⟨_, rfl⟩
      have hMV : ((V : Int) + 1 + (V : Int) / 4 % 2) / 4 = (M : Int) := by rw [hM]; unfold Parse.roundU; omega
      have hPN : Parse.parseN 52 U = M := by
        unfold Parse.parseN
        rw [if_neg (show ¬ 2 ^ (52 + 3) - 2 ≤ U by omega), hM, hV]
      obtain ⟨K, hK⟩ : ∃ K, K = (1074 - e).toNat + 0 := ⟨_, rfl⟩
      have hpk1 : K = 0 ∨ 4503599627370496 ≤ M := by
        have := HP.out.1
        rw [hPN, if_neg (show ¬ 2 ^ (52 + 3) - 2 ≤ U by omega)] at this
        rw [hK]; exact this
      have hpk2 : M < 9007199254740992 := by
        have := HP.out.2
        rw [hPN] at this
        exact this
      have hRK : R = K * 4503599627370496 + M := by
        rw [HR.out, if_neg (by omega), hPN, if_neg (show ¬ 2 ^ (52 + 3) - 2 ≤ U by omega), hK]
        rfl
      have hKe : -e = (K : Int) - 1074 := by omega
      have hKb : K ≤ 4000 := by omega
      have a3 : bits .or .u64 (sgn64 neg : Nat) (M : Int) = ((sgn64 neg + M : Nat) : Int) := by
        rw [u64_or_nat _ _ (by omega) (by omega), sgn64_or neg (by omega)]
      have HH := Lib.hid (And.intro hMV (And.intro hRK hKe))
      clear hV hM hPN hK hMV hRK hKe
      go_wp2_with fail
      refine (round_any (V : Int) _ (by omega) (by omega)).mono ?_
      rintro e' w8 ⟨rfl, hw8⟩
      rw [hw8, HH.out.1]
      clear hw8 w8 a1 a2
      go_wp2_with fail
      rw [HH.out.2.2]
      refine (pack64_any neg M K _ hpk2 hKb hpk1).mono ?_
      rintro e' w9 ⟨rfl, hw9⟩
      rw [hw9]
      clear hw9 w9
      have hRK := HH.out.2.1
      rw [← hRK]
      unfold endOf
      by_cases hin : R < 9218868437227405312
      · rw [if_pos hin]
        go_wp2_with fail
        go_ret2
        exact ⟨by unfold endOf; rw [if_pos hin, hRK]; rfl, hbel2⟩
      · rw [if_neg hin]
        go_wp2_with fail
        go_ret2
        exact ⟨by unfold endOf; rw [if_neg hin]; rfl, hbel2⟩
  · have hs64b : decide (64 ≤ s) = true := decide_eq_true hs64
    have eR : R = 0 := by rw [HR.out, if_pos hs64]
    have a1 : bits .or .u64 (sgn64 neg : Nat) 0 = ((sgn64 neg : Nat) : Int) := by
      have := u64_or_nat (sgn64 neg) 0 (by omega) (by omega)
      rwa [Nat.or_zero] at this
    have h215 := run_215 (sgn64 neg)
    have hres : endOf .f64 9218868437227405312 (sgn64 neg) R = .tuple #[.float .f64 (sgn64 neg), .nilIface] := by
      rw [eR]; unfold endOf; rw [if_pos (by omega), Nat.add_zero]
    have HRES := Lib.hid hres
    clear hres eR
    go_wp2_with fail
    go_ret2
    exact ⟨by rw [HRES.out]; rfl, hbel⟩
end Go.Proofs.YtdfodfflkmcgpaaGreatDoor
