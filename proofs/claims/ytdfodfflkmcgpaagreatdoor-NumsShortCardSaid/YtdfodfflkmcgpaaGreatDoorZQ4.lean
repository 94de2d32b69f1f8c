/- readFloat, at a number with one digit ahead of the point and an exponent: its nineteen digits, whether something is left out, its power of ten. -/
import Derived.Test.YtdfodfflkmcgpaaGreatDoorChecked
import Derived.WalkKit
import Derived.Deep.QuietTactic
import Derived.BigQuiet
import Derived.WalkLawsBesides
import Derived.Outline
import Derived.Lib.Hide
import Derived.Test.YtdfodfflkmcgpaaGreatDoorZR
import Derived.Deep.DeepCutAuto
import Derived.Deep.CutBlock
import Derived.LoopTactic
namespace Go.Proofs.YtdfodfflkmcgpaaGreatDoor
open Go.RowKit
set_option linter.unusedVariables false
set_option maxRecDepth 100000
theorem results_seven {fn : Func} {t1 t2 t3 t4 t5 t6 t7 : Tmp} (h : fn.results = #[.tmp t1, .tmp t2, .tmp t3, .tmp t4, .tmp t5, .tmp t6, .tmp t7]) (tmps : Array Value) (P : Program) (w : World) :
    (results fn tmps).run P w = .ok (.tuple #[tmps.getD t1 undef, tmps.getD t2 undef, tmps.getD t3 undef, tmps.getD t4 undef, tmps.getD t5 undef, tmps.getD t6 undef, tmps.getD t7 undef]) w := by
  simp [results, h]
theorem get_of {s : ByteArray} {i : Nat} {c : UInt8} (h : s.data.toList[i]? = some c) : ∃ h : i < s.size, s[i] = c := by
  obtain ⟨h1, h2⟩ := List.getElem?_eq_some_iff.1 h
  exact ⟨h1, h2⟩
/-- what stands where in the text: a sign, a digit, the point, digits, 'e', a sign, digits. -/
structure Lead (s : ByteArray) (neg : Bool) (i0 : Nat) (D : List UInt8) (eneg : Bool) (j0 : Nat) (X : List UInt8) : Prop where
  sgn : neg = true → s.data.toList[0]? = some 45
  hi0 : i0 = neg.toNat
  first : s.data.toList[i0]? = D[0]?
  dot : s.data.toList[i0 + 1]? = some 46
  rest : ∀ k, 1 ≤ k → k < D.length → s.data.toList[i0 + 1 + k]? = D[k]?
  e : s.data.toList[i0 + 1 + D.length]? = some 101
  esgn : eneg = true → s.data.toList[i0 + 2 + D.length]? = some 45
  hj0 : j0 = i0 + 2 + D.length + eneg.toNat
  exp : ∀ j, j < X.length → s.data.toList[j0 + j]? = X[j]?
  size : s.size = j0 + X.length
  dig : ∀ c ∈ D, isDig c
  xdig : ∀ c ∈ X, isDig c
  dpos : D ≠ []
  xpos : X ≠ []
  room : s.size ≤ 1000000000
/-- where the first loop stands. -/
structure Rd (i0 : Nat) (D : List UInt8) (i k j m : Nat) (tr dot any : Bool) (dp : Int) : Prop where
  kl : k ≤ D.length
  hj : j = min k 19
  hm : m = natOf (D.take j)
  htr : tr = truncN D k
  at_ : (k = 0 ∧ i = i0 ∧ dot = false ∧ any = false ∧ dp = 0) ∨ (k = 1 ∧ i = i0 + 1 ∧ dot = false ∧ any = true ∧ dp = 0) ∨ (1 ≤ k ∧ i = i0 + 1 + k ∧ dot = true ∧ any = true ∧ dp = 1)
theorem u8_false {c : UInt8} {k : Int} (h : (c.toNat : Int) ≠ k) : (((c.toNat : Nat) : Int) == k) = false := by
  rw [beq_eq_false_iff_ne]; exact h
theorem lower_e (w : World) : Calls Tryz.prog 159 #[.int .u8 101] w fun e w' => e = .returned (.int .u8 101) ∧ w' = w := by
  have e1 : bits .or .u8 101 32 = 101 := by decide +kernel
  go_enter Tryz.func159, Tryz.ntmps159
  go_wp2_with fail
  go_ret
  exact ⟨congrArg (fun n => Ending.returned (.int .u8 n)) (by decide +kernel), rfl⟩
set_option maxHeartbeats 8000000 in
theorem readFloat_dig (s : ByteArray) (neg : Bool) (i0 : Nat) (D : List UInt8) (eneg : Bool) (j0 : Nat) (X : List UInt8) (w : World) (L : Lead s neg i0 D eneg j0 X) (hd0 : ∀ c, D[0]? = some c → c ≠ 48) :
    Calls Tryz.prog 206 #[.string s] w fun e w' => e = .returned (.tuple #[.int .u64 (natOf (D.take 19) : Nat), .int .i64 (1 + (if eneg then -(capN X : Int) else capN X) - (min D.length 19 : Nat)), .bool neg, .bool (truncN D D.length), .bool false, .int .i64 s.size, .bool true]) ∧ w' = w := by
  have HL := Lib.hid L
  have HD := Lib.hid hd0
  have hi01 : i0 ≤ 1 := by rw [L.hi0]; exact Bool.toNat_le _
  have hroom := L.room
  have hD1 : 1 ≤ D.length := List.length_pos_iff.2 L.dpos
  have hX1 : 1 ≤ X.length := List.length_pos_iff.2 L.xpos
  obtain ⟨c0, hc0⟩ : ∃ c, D[0]? = some c := ⟨D[0], List.getElem?_eq_getElem hD1⟩
  obtain ⟨hz0, hz1⟩ := get_of (L.first.trans hc0)
  have hcd : isDig c0 := L.dig c0 (List.mem_of_getElem? hc0)
  have hc48 : c0 ≠ 48 := hd0 c0 hc0
  have hn48 : c0.toNat ≠ 48 := fun h => hc48 (UInt8.toNat.inj h)
  unfold isDig at hcd
  have hDs : D.length ≤ s.size := by have h1 := L.size; have h2 := L.hj0; omega
  have hsz2 : i0 + 2 < s.size := by have h1 := L.size; have h2 := L.hj0; omega
  have hDs : D.length ≤ s.size := by have h1 := L.size; have h2 := L.hj0; omega
  clear hd0 L
  have h0s : 0 < s.size := by omega
  have hne : ¬ s = ByteArray.empty := fun h => by rw [h] at h0s; exact absurd h0s (by decide)
  go_enter Tryz.func206, Tryz.ntmps206
  go_wp2_with fail
  go_step3
  go_upto_block 0 with fail
  go_cut [4, 7] (fun s4 s7 wx => wx = w ∧ s4 = .bool neg ∧ s7 = .int .i64 (i0 : Nat))
  case first =>
    cases neg
    · as_aux_lemma =>
        have e0 : i0 = 0 := HL.out.hi0
        subst e0
        have b1 : (((s[0].toNat : Nat) : Int) == 43) = false := u8_false (by rw [hz1]; omega)
        have b2 : (((s[0].toNat : Nat) : Int) == 45) = false := u8_false (by rw [hz1]; omega)
        clear hz1
        go_wp2_with fail
        go_meet
        case rel => exact ⟨rfl, rfl, rfl⟩
    · as_aux_lemma =>
        have e0 : i0 = 1 := HL.out.hi0
        subst e0
        obtain ⟨_, g1⟩ := get_of (HL.out.sgn rfl)
        have g2 : s[0].toNat = 45 := by rw [g1]; rfl
        clear hz1 g1
        go_wp2_with fail
        go_meet
        case rel => exact ⟨rfl, rfl, rfl⟩
  case rest =>
  obtain ⟨rfl, rfl, rfl⟩ := hcut
  have b0 : (((s[i0].toNat : Nat) : Int) == 48) = false := u8_false (by rw [hz1]; omega)
  have HZ := Lib.hid (show s[i0].toNat = c0.toNat by rw [hz1])
  clear hz1
  go_wp2_with fail
  go_step3
  go_wp2_with fail
  go_loop [2, 5, 7, 9, 13, 14, 15, 16, 17] (fun s2 s5 s7 s9 s13 s14 s15 s16 s17 => ∃ (i k j m : Nat) (tr dot any : Bool) (dp : Int), i ≤ s.size ∧ k ≤ 1000000000 ∧ j ≤ 19 ∧ m ≤ 9999999999999999999 ∧ s2 = .int .u64 (m : Nat) ∧ s5 = .bool tr ∧ s7 = .int .i64 (i : Nat) ∧ s9 = .bool false ∧ s13 = .bool dot ∧ s14 = .bool any ∧ s15 = .int .i64 (k : Nat) ∧ s16 = .int .i64 (j : Nat) ∧ s17 = .int .i64 dp ∧ Hid (Rd i0 D i k j m tr dot any dp)) (fun s2 s5 s7 s9 s13 s14 s15 s16 s17 => s.size - (intOf s7).toNat)
  case atStart =>
    refine ⟨i0, 0, 0, 0, false, false, false, 0, Nat.le_of_lt hz0, by omega, by omega, by omega, rfl, rfl, rfl, rfl, rfl, rfl, rfl, rfl, rfl, Lib.hid ⟨Nat.zero_le _, rfl, rfl, rfl, .inl ⟨rfl, rfl, rfl, rfl, rfl⟩⟩⟩
  case round =>
    obtain ⟨i, k, j, m, tr, dot, any, dp, hi, hk, hj, hm, rfl, rfl, rfl, rfl, rfl, rfl, rfl, rfl, rfl, HR⟩ := hrel
    have hat := HR.out.at_
    rcases hat with ⟨rfl, rfl, rfl, rfl, rfl⟩ | ⟨rfl, hik, rfl, rfl, rfl⟩ | ⟨hk1, hik, rfl, rfl, rfl⟩
    · as_aux_lemma =>
        have ej : j = 0 := HR.out.hj
        subst ej
        have em : m = 0 := HR.out.hm
        subst em
        have et : tr = false := HR.out.htr
        subst et
        have hz := HZ.out
        have b1 : (((s[i].toNat : Nat) : Int) == 95) = false := u8_false (by rw [hz]; omega)
        have b2 : (((s[i].toNat : Nat) : Int) == 46) = false := u8_false (by rw [hz]; omega)
        have b3 : 48 ≤ s[i].toNat := by rw [hz]; omega
        have b4 : s[i].toNat ≤ 57 := by rw [hz]; omega
        clear hz
        go_wp2_with fail
        go_round
        case rel =>
          refine ⟨i + 1, 1, 1, c0.toNat - 48, false, false, true, 0, hz0, by omega, by omega, by omega, ?_, rfl, rfl, rfl, rfl, rfl, rfl, rfl, rfl, Lib.hid ⟨hD1, by omega, ?_, ?_, .inr (.inl ⟨rfl, rfl, rfl, rfl, rfl⟩)⟩⟩
          · rw [HZ.out]
            exact congrArg (Value.int .u64) (by omega)
          · obtain ⟨a, l, rfl⟩ : ∃ a l, D = a :: l := by
              cases D with
              | nil => exact absurd hD1 (by decide)
              | cons a l => exact ⟨a, l, rfl⟩
            simp only [List.getElem?_cons_zero, Option.some.injEq] at hc0
            subst hc0
            show _ = natOf [a]
            unfold natOf
            simp
          · exact (truncN_small (by omega)).symm
        case measure => simp [intOf]; omega
    · as_aux_lemma =>
        have g : ∃ h : i < s.size, s[i].toNat = 46 := by
          subst hik
          obtain ⟨h, g⟩ := get_of HL.out.dot
          exact ⟨h, by rw [g]; rfl⟩
        obtain ⟨hlt, g⟩ := g
        have HK := Lib.hid hik
        clear hik
        go_wp2_with fail
        go_round
        case rel =>
          exact ⟨i + 1, 1, j, m, tr, true, true, 1, hlt, by omega, hj, hm, rfl, rfl, rfl, rfl, rfl, rfl, rfl, rfl, rfl, Lib.hid ⟨hD1, HR.out.hj, HR.out.hm, HR.out.htr, .inr (.inr ⟨by omega, by have := HK.out; omega, rfl, rfl, rfl⟩)⟩⟩
        case measure => simp [intOf]; omega
    · rcases Nat.lt_or_ge k D.length with hkn | hkn
      · -- one more digit
        have g : ∃ h : i < s.size, s[i] = D[k] := by
          subst hik
          exact get_of ((HL.out.rest k hk1 hkn).trans (List.getElem?_eq_getElem hkn))
        obtain ⟨hlt, g⟩ := g
        have hcd := HL.out.dig D[k] (List.getElem_mem hkn)
        unfold isDig at hcd
        rw [← g] at hcd
        obtain ⟨b3, b4⟩ := hcd
        have b1 : (((s[i].toNat : Nat) : Int) == 95) = false := u8_false (by omega)
        have b2 : (((s[i].toNat : Nat) : Int) == 46) = false := u8_false (by omega)
        have b5 : ((k : Int) == 0) = false := by rw [beq_eq_false_iff_ne]; omega
        have HK := Lib.hid (And.intro hik g)
        clear hik g
        by_cases hj19 : j < 19
        · have hjk := Lib.hid (show j = k by have := HR.out.hj; omega)
          have hm18 : m ≤ 999999999999999999 := by
            have h1 := HR.out.hm
            have h2 := natOf_take_lt HL.out.dig j
            have h3 : 10 ^ j ≤ 10 ^ 18 := Nat.pow_le_pow_right (by omega) (by omega)
            have h4 : (10:Nat) ^ 18 = 1000000000000000000 := rfl
            omega
          by_cases h48 : s[i].toNat = 48
          · as_aux_lemma =>
              go_wp2_with fail
              go_round
              case rel =>
                refine ⟨i + 1, k + 1, j + 1, m * 10 + (s[i].toNat - 48), tr, true, true, 1, hlt, by omega, by omega, by omega, ?_, rfl, rfl, rfl, rfl, rfl, rfl, rfl, rfl, Lib.hid ⟨hkn, by have := hjk.out; omega, ?_, ?_, .inr (.inr ⟨by omega, by have := HK.out.1; omega, rfl, rfl, rfl⟩)⟩⟩
                · exact congrArg (Value.int .u64) (by omega)
                · have hjk := hjk.out
                  subst hjk
                  rw [natOf_take_succ hkn, ← HR.out.hm, HK.out.2]
                · have hjk := hjk.out
                  rw [HR.out.htr, truncN_small (by omega), truncN_small (by omega)]
              case measure => simp [intOf]; omega
          · as_aux_lemma =>
              have b6 : (((s[i].toNat : Nat) : Int) == 48) = false := u8_false (by omega)
              go_wp2_with fail
              go_round
              case rel =>
                refine ⟨i + 1, k + 1, j + 1, m * 10 + (s[i].toNat - 48), tr, true, true, 1, hlt, by omega, by omega, by omega, ?_, rfl, rfl, rfl, rfl, rfl, rfl, rfl, rfl, Lib.hid ⟨hkn, by have := hjk.out; omega, ?_, ?_, .inr (.inr ⟨by omega, by have := HK.out.1; omega, rfl, rfl, rfl⟩)⟩⟩
                · exact congrArg (Value.int .u64) (by omega)
                · have hjk := hjk.out
                  subst hjk
                  rw [natOf_take_succ hkn, ← HR.out.hm, HK.out.2]
                · have hjk := hjk.out
                  rw [HR.out.htr, truncN_small (by omega), truncN_small (by omega)]
              case measure => simp [intOf]; omega
        · have e19 : j = 19 := by omega
          subst e19
          have hk19 : 19 ≤ k := by have := HR.out.hj; omega
          by_cases h48 : s[i].toNat = 48
          · as_aux_lemma =>
              go_wp2_with fail
              go_round
              case rel =>
                refine ⟨i + 1, k + 1, 19, m, tr, true, true, 1, hlt, by omega, by omega, hm, rfl, rfl, rfl, rfl, rfl, rfl, rfl, rfl, rfl, Lib.hid ⟨hkn, by omega, HR.out.hm, ?_, .inr (.inr ⟨by omega, by have := HK.out.1; omega, rfl, rfl, rfl⟩)⟩⟩
                rw [truncN_succ hk19 hkn, ← HR.out.htr, ← HK.out.2]
                have : s[i] = 48 := UInt8.toNat.inj h48
                rw [this]; simp
              case measure => simp [intOf]; omega
          · as_aux_lemma =>
              have b6 : (((s[i].toNat : Nat) : Int) == 48) = false := u8_false (by omega)
              go_wp2_with fail
              go_round
              case rel =>
                refine ⟨i + 1, k + 1, 19, m, true, true, true, 1, hlt, by omega, by omega, hm, rfl, rfl, rfl, rfl, rfl, rfl, rfl, rfl, rfl, Lib.hid ⟨hkn, by omega, HR.out.hm, ?_, .inr (.inr ⟨by omega, by have := HK.out.1; omega, rfl, rfl, rfl⟩)⟩⟩
                rw [truncN_succ hk19 hkn, ← HR.out.htr, ← HK.out.2]
                have : (s[i] != 48) = true := by rw [bne_iff_ne]; intro h; rw [h] at h48; exact h48 rfl
                rw [this]; simp
              case measure => simp [intOf]; omega
      · -- the exponent
        have ek : k = D.length := by have := HR.out.kl; omega
        subst ek
        have g : ∃ h : i < s.size, s[i].toNat = 101 := by
          subst hik
          obtain ⟨h, g⟩ := get_of HL.out.e
          exact ⟨h, by rw [g]; rfl⟩
        obtain ⟨hlt, g⟩ := g
        have HK := Lib.hid hik
        clear hik
        have hi1 : i + 1 < s.size := by
          have h1 := HL.out.size
          have h2 := HL.out.hj0
          have h3 := HK.out
          omega
        have hj0l : j0 < s.size := by have h1 := HL.out.size; omega
        have hm0 : 0 < m := by
          have h1 := HR.out.hm
          have h2 := HR.out.hj
          have h3 : 1 ≤ j := by omega
          obtain ⟨a, l, rfl⟩ : ∃ a l, D = a :: l := by
            cases D with
            | nil => exact absurd hD1 (by decide)
            | cons a l => exact ⟨a, l, rfl⟩
          simp only [List.getElem?_cons_zero, Option.some.injEq] at hc0
          subst hc0
          obtain ⟨y, rfl⟩ : ∃ y, j = y + 1 := ⟨j - 1, by omega⟩
          rw [List.take_succ_cons, show a :: List.take y l = [a] ++ List.take y l from rfl, natOf_append] at h1
          have h5 : 0 < natOf [a] := by
            show 0 < natOf ([] ++ [a])
            rw [natOf_snoc]; omega
          have h6 : 0 < natOf [a] * 10 ^ (List.take y l).length := Nat.mul_pos h5 (Nat.pow_pos (by omega))
          omega
        obtain ⟨x0, hx0⟩ : ∃ c, X[0]? = some c := ⟨X[0], List.getElem?_eq_getElem hX1⟩
        have hxj : ∃ h : j0 < s.size, s[j0] = x0 := get_of (by have := HL.out.exp 0 hX1; rw [Nat.add_zero] at this; exact this.trans hx0)
        obtain ⟨_, hxj⟩ := hxj
        have hxd := HL.out.xdig x0 (List.mem_of_getElem? hx0)
        unfold isDig at hxd
        rw [← hxj] at hxd
        obtain ⟨x3, x4⟩ := hxd
        have HX := Lib.hid (And.intro hx0 hxj)
        clear hx0 hxj
        have HC := Lib.hid (And.intro hc0 (And.intro hc48 hn48))
        clear hc0 hc48 hn48
        go_wp2_with fail
        refine (lower_e _).mono ?_
        rintro e w2 ⟨rfl, hw⟩
        subst hw
        obtain ⟨sg, hsg⟩ : ∃ sg : Int, sg = (if eneg then -1 else 1) := ⟨_, rfl⟩
        have HS := Lib.hid hsg
        clear hsg
        go_upto_block 4 with fail
        go_cut [7, 19, 170] (fun s7 s19 s170 wx => wx = w2 ∧ s7 = .int .i64 (j0 : Nat) ∧ s19 = .int .i64 sg)
        case first =>
          cases eneg
          · as_aux_lemma =>
              have ej : j0 = i + 1 := by have h2 := HL.out.hj0; have h3 := HK.out; simp at h2; omega
              have HJ := Lib.hid ej
              have y1 : s[i + 1].toNat = s[j0].toNat := by congr 2; exact ej.symm
              have y3 : (((s[i + 1].toNat : Nat) : Int) == 43) = false := u8_false (by omega)
              have y4 : (((s[i + 1].toNat : Nat) : Int) == 45) = false := u8_false (by omega)
              clear ej y1
              go_wp2_with fail
              go_meet
              case rel => exact ⟨rfl, by rw [HJ.out]; rfl, by rw [HS.out]; rfl⟩
          · as_aux_lemma =>
              have ej : j0 = i + 2 := by have h2 := HL.out.hj0; have h3 := HK.out; simp at h2; omega
              have HJ := Lib.hid ej
              obtain ⟨_, g1⟩ := get_of (HL.out.esgn rfl)
              have g2 : s[i + 1].toNat = 45 := by
                have : i + 1 = i0 + 2 + D.length := by have h3 := HK.out; omega
                rw [← show (45 : UInt8).toNat = 45 from rfl, ← g1]
                congr 2
              clear ej g1
              go_wp2_with fail
              go_meet
              case rel => exact ⟨rfl, by rw [HJ.out]; exact congrArg (Value.int .i64) (by omega), by rw [HS.out]; rfl⟩
        case rest =>
        obtain ⟨rfl, rfl, rfl⟩ := hcut
        clear g
        go_wp2_with fail
        go_loop [7, 9, 20] (fun s7 s9 s20 => ∃ i2 j2 e2 : Nat, i2 ≤ s.size ∧ e2 ≤ 99999 ∧ s7 = .int .i64 (i2 : Nat) ∧ s9 = .bool false ∧ s20 = .int .i64 (e2 : Nat) ∧ Hid (i2 = j0 + j2 ∧ j2 ≤ X.length ∧ e2 = capN (X.take j2))) (fun s7 s9 s20 => s.size - (intOf s7).toNat)
        case atStart => exact ⟨j0, 0, 0, Nat.le_of_lt hj0l, by omega, rfl, rfl, rfl, Lib.hid ⟨rfl, Nat.zero_le _, rfl⟩⟩
        case round =>
          obtain ⟨i2, j2, e2, hi2, he2, rfl, rfl, rfl, HE⟩ := hrel
          rcases Nat.lt_or_ge i2 s.size with hl2 | hl2
          · have hjx : j2 < X.length := by have h1 := HE.out.1; have h2 := HL.out.size; omega
            have g : s[i2] = X[j2] := by
              obtain ⟨h1, h2, h3⟩ := HE.out
              subst h1
              obtain ⟨_, g⟩ := get_of ((HL.out.exp j2 hjx).trans (List.getElem?_eq_getElem hjx))
              exact g
            have hxd := HL.out.xdig X[j2] (List.getElem_mem hjx)
            unfold isDig at hxd
            rw [← g] at hxd
            obtain ⟨b3, b4⟩ := hxd
            have b1 : (((s[i2].toNat : Nat) : Int) == 95) = false := u8_false (by omega)
            have HG := Lib.hid g
            clear g x3 x4
            by_cases h1 : e2 < 10000
            · as_aux_lemma =>
                go_wp2_with fail
                go_round
                case rel =>
                  (repeat apply Exists.intro)
                  refine ⟨?_, rfl, rfl, rfl⟩
                  refine ⟨i2 + 1, hl2, j2 + 1, e2 * 10 + (s[i2].toNat - 48), by omega, rfl, rfl, congrArg (Value.int .i64) (by omega), Lib.hid ⟨by have := HE.out.1; omega, hjx, ?_⟩⟩
                  rw [capN_take_succ hjx, ← HE.out.2.2, if_pos h1, HG.out]
                case measure => simp [intOf]; omega
            · as_aux_lemma =>
                go_wp2_with fail
                go_round
                case rel =>
                  (repeat apply Exists.intro)
                  refine ⟨?_, rfl, rfl, rfl⟩
                  refine ⟨i2 + 1, hl2, j2 + 1, e2, by omega, rfl, rfl, rfl, Lib.hid ⟨by have := HE.out.1; omega, hjx, ?_⟩⟩
                  rw [capN_take_succ hjx, ← HE.out.2.2, if_neg h1]
                case measure => simp [intOf]; omega
          · have ei : i2 = s.size := by omega
            subst ei
            have ee : e2 = capN X := by
              obtain ⟨h1, h2, h3⟩ := HE.out
              have h4 := HL.out.size
              rw [h3, show j2 = X.length by omega, List.take_length]
            have HQ := Lib.hid ee
            clear ee x3 x4
            have hfm : m = natOf (D.take 19) := by
              rw [HR.out.hm, HR.out.hj]
              rcases Nat.lt_or_ge D.length 19 with h | h
              · rw [Nat.min_eq_left (by omega), List.take_length, List.take_of_length_le (by omega)]
              · rw [Nat.min_eq_right h]
            have HF := Lib.hid (And.intro hfm (And.intro HR.out.hj HR.out.htr))
            clear hfm
            cases eneg
            · as_aux_lemma =>
                have es : sg = 1 := HS.out
                subst es
                go_wp2_with fail
                try rw [Exit.noGoto_ret]
                ((try simp only [Exit.inBlock, Exit.then]); refine bodyPost_ret (results_seven rfl _ _ _) rfl ?_)
                refine ⟨?_, rfl⟩
                rw [← HF.out.1, ← HF.out.2.2, ← HF.out.2.1, ← HQ.out]
                rfl
            · as_aux_lemma =>
                have es : sg = -1 := HS.out
                subst es
                go_wp2_with fail
                try rw [Exit.noGoto_ret]
                ((try simp only [Exit.inBlock, Exit.then]); refine bodyPost_ret (results_seven rfl _ _ _) rfl ?_)
                refine ⟨?_, rfl⟩
                rw [← HF.out.1, ← HF.out.2.2, ← HF.out.2.1, ← HQ.out]
                rfl
end Go.Proofs.YtdfodfflkmcgpaaGreatDoor
