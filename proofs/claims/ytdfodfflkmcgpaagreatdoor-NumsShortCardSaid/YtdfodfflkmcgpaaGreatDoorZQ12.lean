/- readFloat, at nought. -/
import Derived.Test.YtdfodfflkmcgpaaGreatDoorZQ4
namespace Go.Proofs.YtdfodfflkmcgpaaGreatDoor
open Go.RowKit
set_option linter.unusedVariables false
set_option maxRecDepth 100000
theorem lower_dot (w : World) : Calls Tryz.prog 159 #[.int .u8 46] w fun e w' => e = .returned (.int .u8 46) ∧ w' = w := by
  have e1 : bits .or .u8 46 32 = 46 := by decide +kernel
  go_enter Tryz.func159, Tryz.ntmps159
  go_wp2_with fail
  go_ret
  exact ⟨congrArg (fun n => Ending.returned (.int .u8 n)) (by decide +kernel), rfl⟩
set_option maxHeartbeats 8000000 in
theorem readFloat_zero (s : ByteArray) (neg : Bool) (i0 : Nat) (eneg : Bool) (j0 : Nat) (X : List UInt8) (w : World) (L : Lead s neg i0 [48] eneg j0 X) :
    Calls Tryz.prog 206 #[.string s] w fun e w' => e = .returned (.tuple #[.int .u64 0, .int .i64 0, .bool neg, .bool false, .bool false, .int .i64 s.size, .bool true]) ∧ w' = w := by
  have HL := Lib.hid L
  have hi01 : i0 ≤ 1 := by rw [L.hi0]; exact Bool.toNat_le _
  have hroom := L.room
  have hX1 : 1 ≤ X.length := List.length_pos_iff.2 L.xpos
  obtain ⟨hz0, hz1⟩ := get_of (L.first.trans (show ([48] : List UInt8)[0]? = some 48 from rfl))
  have hsz2 : i0 + 2 < s.size := by have h1 := L.size; have h2 := L.hj0; simp at h2; omega
  have h0s : 0 < s.size := by omega
  have hne : ¬ s = ByteArray.empty := fun h => by rw [h] at h0s; exact absurd h0s (by decide)
  have HZ := Lib.hid (show s[i0].toNat = 48 by rw [hz1]; rfl)
  have hdt : ∃ h : i0 + 1 < s.size, s[i0 + 1].toNat = 46 := by
    obtain ⟨h, g⟩ := get_of L.dot
    exact ⟨h, by rw [g]; rfl⟩
  obtain ⟨hdt0, hdt1⟩ := hdt
  have HDT := Lib.hid hdt1
  clear L hz1 hdt1
  go_enter Tryz.func206, Tryz.ntmps206
  go_wp2_with fail
  go_step3
  go_upto_block 0 with fail
  go_cut [4, 7, 27] (fun s4 s7 s27 wx => wx = w ∧ s4 = .bool neg ∧ s7 = .int .i64 (i0 : Nat))
  case first =>
    cases neg
    · as_aux_lemma =>
        have e0 : i0 = 0 := HL.out.hi0
        subst e0
        have hz := HZ.out
        go_wp2_with fail
        go_meet
        case rel => exact ⟨rfl, rfl, rfl⟩
    · as_aux_lemma =>
        have e0 : i0 = 1 := HL.out.hi0
        subst e0
        obtain ⟨_, g1⟩ := get_of (HL.out.sgn rfl)
        have g2 : s[0].toNat = 45 := by rw [g1]; rfl
        clear g1
        go_wp2_with fail
        go_meet
        case rel => exact ⟨rfl, rfl, rfl⟩
  case rest =>
  obtain ⟨rfl, rfl, rfl⟩ := hcut
  have hz := HZ.out
  have hdt := HDT.out
  go_wp2_with fail
  refine (lower_dot _).mono ?_
  rintro e wz ⟨rfl, hw⟩
  rw [hw]
  clear hw wz hz hdt
  go_wp2_with fail
  go_step3
  go_wp2_with fail
  go_loop [2, 5, 7, 9, 13, 14, 15, 16, 17] (fun s2 s5 s7 s9 s13 s14 s15 s16 s17 => ∃ (i : Nat) (dot any : Bool) (dp : Int), i ≤ s.size ∧ s2 = .int .u64 0 ∧ s5 = .bool false ∧ s7 = .int .i64 (i : Nat) ∧ s9 = .bool false ∧ s13 = .bool dot ∧ s14 = .bool any ∧ s15 = .int .i64 0 ∧ s16 = .int .i64 0 ∧ s17 = .int .i64 dp ∧ Hid ((i = i0 ∧ dot = false ∧ any = false ∧ dp = 0) ∨ (i = i0 + 1 ∧ dot = false ∧ any = true ∧ dp = -1) ∨ (i = i0 + 2 ∧ dot = true ∧ any = true ∧ dp = 0))) (fun s2 s5 s7 s9 s13 s14 s15 s16 s17 => s.size - (intOf s7).toNat)
  case atStart => exact ⟨i0, false, false, 0, Nat.le_of_lt hz0, rfl, rfl, rfl, rfl, rfl, rfl, rfl, rfl, rfl, Lib.hid (.inl ⟨rfl, rfl, rfl, rfl⟩)⟩
  case round =>
    obtain ⟨i, dot, any, dp, hi, rfl, rfl, rfl, rfl, rfl, rfl, rfl, rfl, rfl, HR⟩ := hrel
    rcases HR.out with ⟨rfl, rfl, rfl, rfl⟩ | ⟨hik, rfl, rfl, rfl⟩ | ⟨hik, rfl, rfl, rfl⟩
    · as_aux_lemma =>
        have hz := HZ.out
        go_wp2_with fail
        go_round
        case rel => exact ⟨i + 1, false, true, -1, hz0, rfl, rfl, rfl, rfl, rfl, rfl, rfl, rfl, rfl, Lib.hid (.inr (.inl ⟨rfl, rfl, rfl, rfl⟩))⟩
        case measure => simp [intOf]; omega
    · as_aux_lemma =>
        have g : ∃ h : i < s.size, s[i].toNat = 46 := by subst hik; exact ⟨hdt0, HDT.out⟩
        obtain ⟨hlt, g⟩ := g
        have HK := Lib.hid hik
        clear hik
        go_wp2_with fail
        go_round
        case rel => exact ⟨i + 1, true, true, 0, hlt, rfl, rfl, rfl, rfl, rfl, rfl, rfl, rfl, rfl, Lib.hid (.inr (.inr ⟨by have := HK.out; omega, rfl, rfl, rfl⟩))⟩
        case measure => simp [intOf]; omega
    · have g : ∃ h : i < s.size, s[i].toNat = 101 := by
        subst hik
        obtain ⟨h, g⟩ := get_of HL.out.e
        exact ⟨h, by rw [← show (101 : UInt8).toNat = 101 from rfl, ← g]; rfl⟩
      obtain ⟨hlt, g⟩ := g
      have HK := Lib.hid hik
      clear hik
      have hi1 : i + 1 < s.size := by
        have h1 := HL.out.size
        have h2 : j0 = i0 + 2 + 1 + eneg.toNat := HL.out.hj0
        have h3 := HK.out
        omega
      have hj0l : j0 < s.size := by have h1 := HL.out.size; omega
      obtain ⟨x0, hx0⟩ : ∃ c, X[0]? = some c := ⟨X[0], List.getElem?_eq_getElem hX1⟩
      have hxj : ∃ h : j0 < s.size, s[j0] = x0 := get_of (by have := HL.out.exp 0 hX1; rw [Nat.add_zero] at this; exact this.trans hx0)
      obtain ⟨_, hxj⟩ := hxj
      have hxd := HL.out.xdig x0 (List.mem_of_getElem? hx0)
      unfold isDig at hxd
      rw [← hxj] at hxd
      obtain ⟨x3, x4⟩ := hxd
      have HX := Lib.hid (And.intro hx0 hxj)
      clear hx0 hxj
      go_wp2_with fail
      refine (lower_e _).mono ?_
      rintro e w2 ⟨rfl, hw⟩
      subst hw
      obtain ⟨sg, hsg⟩ : ∃ sg : Int, sg = (if eneg then -1 else 1) := ⟨_, rfl⟩
      have HS := Lib.hid hsg
      clear hsg
      go_upto_block 4 with fail
      go_cut [7, 19, 170] (fun s7 s19 s170 wx => wx = w2 ∧ s7 = .int .i64 (j0 : Nat) ∧ s19 = .int .i64 sg)
      case first =>
        cases eneg
        · as_aux_lemma =>
            have ej : j0 = i + 1 := by have h2 := HL.out.hj0; have h3 := HK.out; simp at h2; omega
            have HJ := Lib.hid ej
            have y1 : s[i + 1].toNat = s[j0].toNat := by congr 2; exact ej.symm
            have y3 : (((s[i + 1].toNat : Nat) : Int) == 43) = false := u8_false (by omega)
            have y4 : (((s[i + 1].toNat : Nat) : Int) == 45) = false := u8_false (by omega)
            clear ej y1
            go_wp2_with fail
            go_meet
            case rel => exact ⟨rfl, by rw [HJ.out]; rfl, by rw [HS.out]; rfl⟩
        · as_aux_lemma =>
            have ej : j0 = i + 2 := by have h2 := HL.out.hj0; have h3 := HK.out; simp at h2; omega
            have HJ := Lib.hid ej
            obtain ⟨_, g1⟩ := get_of (HL.out.esgn rfl)
            have g2 : s[i + 1].toNat = 45 := by
              have : i + 1 = i0 + 2 + 1 := by have h3 := HK.out; omega
              rw [← show (45 : UInt8).toNat = 45 from rfl, ← g1]
              congr 2
            clear ej g1
            go_wp2_with fail
            go_meet
            case rel => exact ⟨rfl, by rw [HJ.out]; exact congrArg (Value.int .i64) (by omega), by rw [HS.out]; rfl⟩
      case rest =>
      obtain ⟨rfl, rfl, rfl⟩ := hcut
      clear g
      go_wp2_with fail
      go_loop [7, 9, 20] (fun s7 s9 s20 => ∃ i2 j2 e2 : Nat, i2 ≤ s.size ∧ e2 ≤ 99999 ∧ s7 = .int .i64 (i2 : Nat) ∧ s9 = .bool false ∧ s20 = .int .i64 (e2 : Nat) ∧ Hid (i2 = j0 + j2 ∧ j2 ≤ X.length ∧ e2 = capN (X.take j2))) (fun s7 s9 s20 => s.size - (intOf s7).toNat)
      case atStart => exact ⟨j0, 0, 0, Nat.le_of_lt hj0l, by omega, rfl, rfl, rfl, Lib.hid ⟨rfl, Nat.zero_le _, rfl⟩⟩
      case round =>
        obtain ⟨i2, j2, e2, hi2, he2, rfl, rfl, rfl, HE⟩ := hrel
        rcases Nat.lt_or_ge i2 s.size with hl2 | hl2
        · have hjx : j2 < X.length := by have h1 := HE.out.1; have h2 := HL.out.size; omega
          have g : s[i2] = X[j2] := by
            obtain ⟨h1, h2, h3⟩ := HE.out
            subst h1
            obtain ⟨_, g⟩ := get_of ((HL.out.exp j2 hjx).trans (List.getElem?_eq_getElem hjx))
            exact g
          have hxd := HL.out.xdig X[j2] (List.getElem_mem hjx)
          unfold isDig at hxd
          rw [← g] at hxd
          obtain ⟨b3, b4⟩ := hxd
          have b1 : (((s[i2].toNat : Nat) : Int) == 95) = false := u8_false (by omega)
          have HG := Lib.hid g
          clear g x3 x4
          by_cases h1 : e2 < 10000
          · as_aux_lemma =>
              go_wp2_with fail
              go_round
              case rel =>
                (repeat apply Exists.intro)
                refine ⟨?_, rfl, rfl, rfl⟩
                refine ⟨i2 + 1, hl2, j2 + 1, e2 * 10 + (s[i2].toNat - 48), by omega, rfl, rfl, congrArg (Value.int .i64) (by omega), Lib.hid ⟨by have := HE.out.1; omega, hjx, ?_⟩⟩
                rw [capN_take_succ hjx, ← HE.out.2.2, if_pos h1, HG.out]
              case measure => simp [intOf]; omega
          · as_aux_lemma =>
              go_wp2_with fail
              go_round
              case rel =>
                (repeat apply Exists.intro)
                refine ⟨?_, rfl, rfl, rfl⟩
                refine ⟨i2 + 1, hl2, j2 + 1, e2, by omega, rfl, rfl, rfl, Lib.hid ⟨by have := HE.out.1; omega, hjx, ?_⟩⟩
                rw [capN_take_succ hjx, ← HE.out.2.2, if_neg h1]
              case measure => simp [intOf]; omega
        · have ei : i2 = s.size := by omega
          subst ei
          have ee : e2 = capN X := by
            obtain ⟨h1, h2, h3⟩ := HE.out
            have h4 := HL.out.size
            rw [h3, show j2 = X.length by omega, List.take_length]
          have HQ := Lib.hid ee
          clear ee x3 x4
          cases eneg
          · as_aux_lemma =>
              have es : sg = 1 := HS.out
              subst es
              go_wp2_with fail
              try rw [Exit.noGoto_ret]
              ((try simp only [Exit.inBlock, Exit.then]); refine bodyPost_ret (results_seven rfl _ _ _) rfl ?_)
              refine ⟨?_, rfl⟩
              rfl
          · as_aux_lemma =>
              have es : sg = -1 := HS.out
              subst es
              go_wp2_with fail
              try rw [Exit.noGoto_ret]
              ((try simp only [Exit.inBlock, Exit.then]); refine bodyPost_ret (results_seven rfl _ _ _) rfl ?_)
              refine ⟨?_, rfl⟩
              rfl
end Go.Proofs.YtdfodfflkmcgpaaGreatDoor
