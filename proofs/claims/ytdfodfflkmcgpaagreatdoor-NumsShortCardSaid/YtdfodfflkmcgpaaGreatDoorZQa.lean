/- Number, at every text. -/
import Derived.Test.YtdfodfflkmcgpaaGreatDoorZC1
import Derived.Deep.DeepCutAuto
import Derived.Deep.CutBlock
import Derived.Test.YtdfodfflkmcgpaaGreatDoorZQc
import Derived.Test.YtdfodfflkmcgpaaGreatDoorZL
namespace Go.Proofs.YtdfodfflkmcgpaaGreatDoor
open Go.RowKit Go.Sort
set_option linter.unusedVariables false
set_option maxRecDepth 100000
/-- what stands behind n: a point and digits are taken. -/
def pointN (l : List UInt8) (n : Nat) : Nat := if l[n]? = some 46 ∧ 0 < digitsN (l.drop (n + 1)) then n + 1 + digitsN (l.drop (n + 1)) else n
/-- the exponent's digits begin here. -/
def expAt (l : List UInt8) (n : Nat) : Nat := if l[n + 1]? = some 43 ∨ l[n + 1]? = some 45 then n + 2 else n + 1
def expN (l : List UInt8) (n : Nat) : Nat := if (l[n]? = some 101 ∨ l[n]? = some 69) ∧ 0 < digitsN (l.drop (expAt l n)) then expAt l n + digitsN (l.drop (expAt l n)) else n
def wholeN (l : List UInt8) (n : Nat) : Nat := if l[n]? = some 48 then 1 else digitsN (l.drop n)
def signN (l : List UInt8) : Nat := if l[0]? = some 45 then 1 else 0
/-- the length of the JSON number at the front. -/
def numberN (l : List UInt8) : Nat := if digitsN (l.drop (signN l)) = 0 then 0 else expN l (pointN l (signN l + wholeN l (signN l)))
theorem digitsN_le (l : List UInt8) : digitsN l ≤ l.length := (List.takeWhile_sublist _).length_le
theorem extract_list (s : ByteArray) (n : Nat) : (s.extract n s.size).data.toList = s.data.toList.drop n := by
  have : (s.extract n s.size).data = s.data.extract n s.size := ByteArray.data_extract
  rw [this, Array.toList_extract, List.extract_eq_take_drop]
  apply List.take_of_length_le
  rw [List.length_drop]
  exact Nat.le_refl _
theorem digits_from (s : ByteArray) (n : Nat) (w : World) (hs : s.size ≤ 9223372036854775806) :
    Calls Tryz.prog 61 #[.string (s.extract n s.size)] w fun e w' => e = .returned (.int .i64 (digitsN (s.data.toList.drop n) : Nat)) ∧ w' = w := by
  have := digits_any (s.extract n s.size) w (by rw [ByteArray.size_extract]; omega)
  rw [extract_list] at this
  exact this
theorem at_some (s : ByteArray) (n : Nat) (h : n < s.size) : s.data.toList[n]? = some s[n] := by
  rw [List.getElem?_eq_getElem (by exact h)]
  rfl
theorem at_none (s : ByteArray) (n : Nat) (h : s.size ≤ n) : s.data.toList[n]? = none := List.getElem?_eq_none (by exact h)
theorem sign_eq (s : ByteArray) : Lib.hasPrefix s.data.toList (ByteArray.mk #[45]).data.toList = decide (s.data.toList[0]? = some 45) := by
  show Lib.hasPrefix s.data.toList [45] = _
  cases s.data.toList with
  | nil => rfl
  | cons a l =>
    simp only [Lib.hasPrefix, List.isPrefixOf, Bool.and_true, List.getElem?_cons_zero, Option.some.injEq]
    rw [Bool.eq_iff_iff, beq_iff_eq, decide_eq_true_eq]
    exact eq_comm
/-- the digits behind n end within the text. -/
theorem digits_room (s : ByteArray) (n : Nat) : n + digitsN (s.data.toList.drop n) ≤ max n s.size := by
  have := digitsN_le (s.data.toList.drop n)
  rw [List.length_drop] at this
  have h : s.data.toList.length = s.size := rfl
  omega
end Go.Proofs.YtdfodfflkmcgpaaGreatDoor
/- Number, at every text: the length of the JSON number at its front. -/
namespace Go.Proofs.YtdfodfflkmcgpaaGreatDoor
open Go.RowKit Go.Sort
set_option linter.unusedVariables false
set_option maxRecDepth 100000
theorem at_iff (s : ByteArray) (n : Nat) (c : UInt8) (h : n < s.size) : s.data.toList[n]? = some c ↔ s[n] = c := by
  rw [at_some s n h]; exact Option.some_inj
theorem at_yes {s : ByteArray} {n : Nat} {c : UInt8} (h : s.data.toList[n]? = some c) : ∃ h : n < s.size, s[n].toNat = c.toNat := by
  obtain ⟨h1, h2⟩ := List.getElem?_eq_some_iff.1 h
  exact ⟨h1, by rw [← h2]; rfl⟩
theorem at_no {s : ByteArray} {n : Nat} {c : UInt8} {k : Int} (h : ¬ s.data.toList[n]? = some c) (hn : n < s.size) (hk : (c.toNat : Int) = k) : (((s[n].toNat : Nat) : Int) == k) = false := by
  rw [beq_eq_false_iff_ne, ← hk]
  intro h1
  exact h ((at_iff s n c hn).2 (UInt8.toNat.inj (by omega)))
set_option maxHeartbeats 4000000 in
theorem number_any (s : ByteArray) (w : World) (hs : s.size ≤ 1000000000) :
    Calls Tryz.prog 31 #[.string s] w fun e w' => e = .returned (.int .i64 (numberN s.data.toList : Nat)) ∧ w' = w := by
  have H := Lib.hid fun n w => digits_from s n w (by omega)
  have hsg : signN s.data.toList ≤ s.size := by
    unfold signN
    split
    · rcases Nat.lt_or_ge 0 s.size with h | h
      · exact h
      · rename_i h0; rw [at_none s 0 h] at h0; cases h0
    · omega
  obtain ⟨n0, hn0⟩ : ∃ n, n = signN s.data.toList := ⟨_, rfl⟩
  rw [← hn0] at hsg
  have HN := Lib.hid hn0
  clear hn0
  go_enter Tryz.func31, Tryz.ntmps31
  go_wp2_with fail
  refine (Tryz.strings_HasPrefix _ _ _).mono ?_
  rintro e w' ⟨rfl, hw⟩
  subst hw
  rw [sign_eq]
  obtain ⟨sb, hsb⟩ : ∃ b, b = decide (s.data.toList[0]? = some 45) := ⟨_, rfl⟩
  rw [← hsb]
  have HB := Lib.hid hsb
  clear hsb
  go_upto_if 9 with fail
  go_cut [3] (fun s3 wx => wx = w' ∧ s3 = .int .i64 (n0 : Nat))
  case first =>
    cases sb
    · have e0 : n0 = 0 := by rw [HN.out]; unfold signN; rw [if_neg (of_decide_eq_false HB.out.symm)]
      have HE := Lib.hid e0
      clear e0
      go_wp2_with fail
      go_meet
      case rel => exact ⟨rfl, by rw [HE.out]; rfl⟩
    · have e0 : n0 = 1 := by rw [HN.out]; unfold signN; rw [if_pos (of_decide_eq_true HB.out.symm)]
      have HE := Lib.hid e0
      clear e0
      go_wp2_with fail
      go_meet
      case rel => exact ⟨rfl, by rw [HE.out]; rfl⟩
  case rest =>
  obtain ⟨rfl, rfl⟩ := hcut
  go_wp2_with fail
  refine (H.out _ _).mono ?_
  rintro e w2 ⟨rfl, hw⟩
  subst hw
  obtain ⟨d0, hd0⟩ : ∃ d, d = digitsN (s.data.toList.drop n0) := ⟨_, rfl⟩
  rw [← hd0]
  have hroom0 : n0 + d0 ≤ s.size := by have := digits_room s n0; omega
  by_cases hz : d0 = 0
  · have HD := Lib.hid hd0
    clear hd0
    subst hz
    go_wp2_with fail
    go_ret
    refine ⟨?_, rfl⟩
    unfold numberN
    rw [← HN.out, ← HD.out, if_pos rfl]
    rfl
  have hlt0 : n0 < s.size := by omega
  have HD := Lib.hid (And.intro hd0 hz)
  have bz : ((d0 : Int) == 0) = false := by rw [beq_eq_false_iff_ne]; omega
  clear hd0 hz
  obtain ⟨d1, hd1⟩ : ∃ d, d = wholeN s.data.toList n0 := ⟨_, rfl⟩
  have HW := Lib.hid hd1
  clear hd1
  have hroom1 : n0 + d1 ≤ s.size := by
    rw [HW.out]; unfold wholeN
    split
    · omega
    · rw [← HD.out.1]; omega
  go_upto_if 19 with fail
  go_cut [4, 18] (fun s4 s18 wx => wx = w2 ∧ s4 = .int .i64 (d1 : Nat))
  case first =>
    by_cases h0 : s.data.toList[n0]? = some 48
    · have e0 : d1 = 1 := by rw [HW.out]; unfold wholeN; rw [if_pos h0]
      obtain ⟨_, g⟩ := at_yes h0
      have g2 : s[n0].toNat = 48 := g
      have HE := Lib.hid e0
      clear e0 h0 g
      go_wp2_with fail
      go_meet
      case rel => exact ⟨rfl, by rw [HE.out]; rfl⟩
    · have e0 : d1 = d0 := by rw [HW.out]; unfold wholeN; rw [if_neg h0]; exact HD.out.1.symm
      have g2 := at_no (k := 48) h0 hlt0 rfl
      have HE := Lib.hid e0
      clear e0 h0
      go_wp2_with fail
      go_meet
      case rel => exact ⟨rfl, by rw [HE.out]⟩
  case rest =>
  obtain ⟨rfl, rfl⟩ := hcut
  clear bz
  obtain ⟨n1, hn1⟩ : ∃ n, n = n0 + d1 := ⟨_, rfl⟩
  have hroom1b := hroom1
  rw [← hn1] at hroom1
  have H1 := Lib.hid hn1
  obtain ⟨n2, hn2⟩ : ∃ n, n = pointN s.data.toList n1 := ⟨_, rfl⟩
  have H2 := Lib.hid hn2
  clear hn1 hn2
  have hroom2 : n2 ≤ s.size := by
    rw [H2.out]; unfold pointN
    split
    · rename_i h
      obtain ⟨h, -⟩ := at_yes h.1
      have := digits_room s (n1 + 1); omega
    · omega
  have hD0 := HD.out.2
  go_upto_region 9 with fail
  go_cut [3] (fun s3 wx => wx = wc ∧ s3 = .int .i64 (n1 : Nat))
  case first =>
    go_wp2_with fail
    go_meet
    case rel => exact ⟨rfl, congrArg (Value.int .i64) (by have := H1.out; omega)⟩
  case rest =>
  obtain ⟨rfl, rfl⟩ := hcut
  -- the point
  obtain ⟨pb, hpb⟩ : ∃ b, b = decide (s.data.toList[n1]? = some 46) := ⟨_, rfl⟩
  have HP := Lib.hid hpb
  clear hpb
  go_upto_region 10 with fail
  go_cut [32] (fun s32 wx => wx = wc ∧ s32 = .bool pb)
  case first =>
    cases pb
    · have h0 := of_decide_eq_false HP.out.symm
      rcases Nat.lt_or_ge n1 s.size with hl | hl
      · have g2 := at_no (k := 46) h0 hl rfl
        clear h0
        go_wp2_with fail
        go_meet
        case rel => exact ⟨rfl, rfl⟩
      · clear h0
        go_wp2_with fail
        go_meet
        case rel => exact ⟨rfl, rfl⟩
    · obtain ⟨hl, g⟩ := at_yes (of_decide_eq_true HP.out.symm)
      have g2 : s[n1].toNat = 46 := g
      clear g
      go_wp2_with fail
      go_meet
      case rel => exact ⟨rfl, rfl⟩
  case rest =>
  obtain ⟨rfl, rfl⟩ := hcut
  go_upto_if 32 with fail
  go_cut [3] (fun s3 wx => wx = wc ∧ s3 = .int .i64 (n2 : Nat))
  case first =>
    cases pb
    · have e0 : n2 = n1 := by
        rw [H2.out]; unfold pointN
        rw [if_neg (fun h => of_decide_eq_false HP.out.symm h.1)]
      have HE := Lib.hid e0
      clear e0
      go_wp2_with fail
      go_meet
      case rel => exact ⟨rfl, by rw [HE.out]⟩
    · obtain ⟨hl, -⟩ := at_yes (of_decide_eq_true HP.out.symm)
      have hroomd := digits_room s (n1 + 1)
      go_wp2_with fail
      refine (H.out _ _).mono ?_
      rintro e w3 ⟨rfl, hw⟩
      subst hw
      obtain ⟨dd, hdd⟩ : ∃ d, d = digitsN (s.data.toList.drop (n1 + 1)) := ⟨_, rfl⟩
      rw [← hdd] at hroomd ⊢
      by_cases hz : dd = 0
      · have e0 : n2 = n1 := by
          rw [H2.out]; unfold pointN
          rw [← hdd, if_neg (fun h => by omega)]
        have HE := Lib.hid e0
        clear e0 hdd
        subst hz
        go_wp2_with fail
        go_meet
        case rel => exact ⟨rfl, by rw [HE.out]⟩
      · have e0 : n2 = n1 + 1 + dd := by
          rw [H2.out]; unfold pointN
          rw [← hdd, if_pos ⟨of_decide_eq_true HP.out.symm, by omega⟩]
        have HE := Lib.hid e0
        have hpos : 0 < dd := by omega
        clear e0 hdd hz
        go_wp2_with fail
        go_meet
        case rel => exact ⟨rfl, congrArg (Value.int .i64) (by have := HE.out; omega)⟩
  case rest =>
  obtain ⟨rfl, rfl⟩ := hcut
  -- the exponent
  obtain ⟨eb, heb⟩ : ∃ b, b = decide (s.data.toList[n2]? = some 101 ∨ s.data.toList[n2]? = some 69) := ⟨_, rfl⟩
  have HE := Lib.hid heb
  clear heb
  obtain ⟨n3, hn3⟩ : ∃ n, n = expN s.data.toList n2 := ⟨_, rfl⟩
  have H3 := Lib.hid hn3
  clear hn3
  have hres : numberN s.data.toList = n3 := by
    unfold numberN
    rw [← HN.out, if_neg (by rw [← HD.out.1]; exact HD.out.2), ← HW.out, ← H1.out, ← H2.out, ← H3.out]
  have HRES := Lib.hid hres
  clear hres
  go_upto_region 14 with fail
  go_cut [59] (fun s59 wx => wx = wc ∧ s59 = .bool eb)
  case first =>
    cases eb
    · have h0 := of_decide_eq_false HE.out.symm
      rcases Nat.lt_or_ge n2 s.size with hl | hl
      · have g2 := at_no (k := 101) (fun h => h0 (.inl h)) hl rfl
        have g3 := at_no (k := 69) (fun h => h0 (.inr h)) hl rfl
        clear h0
        go_wp2_with fail
        go_meet
        case rel => exact ⟨rfl, rfl⟩
      · clear h0
        go_wp2_with fail
        go_meet
        case rel => exact ⟨rfl, rfl⟩
    · rcases of_decide_eq_true HE.out.symm with h | h
      · obtain ⟨hl, g⟩ := at_yes h
        have g2 : s[n2].toNat = 101 := g
        clear g h
        go_wp2_with fail
        go_meet
        case rel => exact ⟨rfl, rfl⟩
      · obtain ⟨hl, g⟩ := at_yes h
        have g2 : s[n2].toNat = 69 := g
        clear g h
        go_wp2_with fail
        go_meet
        case rel => exact ⟨rfl, rfl⟩
  case rest =>
  obtain ⟨rfl, rfl⟩ := hcut
  go_upto_if 59 with fail
  go_cut [3] (fun s3 wx => wx = wc ∧ s3 = .int .i64 (n3 : Nat))
  case first =>
    cases eb
    · have e0 : n3 = n2 := by
        rw [H3.out]; unfold expN
        rw [if_neg (fun h => of_decide_eq_false HE.out.symm h.1)]
      have HX := Lib.hid e0
      clear e0
      go_wp2_with fail
      go_meet
      case rel => exact ⟨rfl, by rw [HX.out]⟩
    · have hl : n2 < s.size := by
        rcases of_decide_eq_true HE.out.symm with h | h
        · exact (at_yes h).1
        · exact (at_yes h).1
      obtain ⟨k3, hk3⟩ : ∃ k, k = expAt s.data.toList n2 := ⟨_, rfl⟩
      have HK := Lib.hid hk3
      clear hk3
      obtain ⟨sg, hsg⟩ : ∃ b, b = decide (s.data.toList[n2 + 1]? = some 43 ∨ s.data.toList[n2 + 1]? = some 45) := ⟨_, rfl⟩
      have HS := Lib.hid hsg
      clear hsg
      go_upto_region 16 with fail
      go_cut [77] (fun s77 wx => wx = wc ∧ s77 = .bool sg)
      case first =>
        cases sg
        · have h0 := of_decide_eq_false HS.out.symm
          rcases Nat.lt_or_ge (n2 + 1) s.size with hl2 | hl2
          · have g2 := at_no (k := 43) (fun h => h0 (.inl h)) hl2 rfl
            have g3 := at_no (k := 45) (fun h => h0 (.inr h)) hl2 rfl
            clear h0
            go_wp2_with fail
            go_meet
            case rel => exact ⟨rfl, rfl⟩
          · clear h0
            go_wp2_with fail
            go_meet
            case rel => exact ⟨rfl, rfl⟩
        · rcases of_decide_eq_true HS.out.symm with h | h
          · obtain ⟨hl2, g⟩ := at_yes h
            have g2 : s[n2 + 1].toNat = 43 := g
            clear g h
            go_wp2_with fail
            go_meet
            case rel => exact ⟨rfl, rfl⟩
          · obtain ⟨hl2, g⟩ := at_yes h
            have g2 : s[n2 + 1].toNat = 45 := g
            clear g h
            go_wp2_with fail
            go_meet
            case rel => exact ⟨rfl, rfl⟩
      case rest =>
      obtain ⟨rfl, rfl⟩ := hcut
      have hk3l : k3 ≤ s.size := by
        rw [HK.out]; unfold expAt
        split
        · rename_i h
          rcases h with h | h
          · have := (at_yes h).1; omega
          · have := (at_yes h).1; omega
        · omega
      go_upto_if 77 with fail
      go_cut [6] (fun s6 wx => wx = wc ∧ s6 = .int .i64 (k3 : Nat))
      case first =>
        cases sg
        · have e0 : k3 = n2 + 1 := by rw [HK.out]; unfold expAt; rw [if_neg (of_decide_eq_false HS.out.symm)]
          have HX := Lib.hid e0
          clear e0
          go_wp2_with fail
          go_meet
          case rel => exact ⟨rfl, by rw [HX.out]; rfl⟩
        · have e0 : k3 = n2 + 2 := by rw [HK.out]; unfold expAt; rw [if_pos (of_decide_eq_true HS.out.symm)]
          have HX := Lib.hid e0
          clear e0
          have hl2 : n2 + 1 < s.size := by
            rcases of_decide_eq_true HS.out.symm with h | h
            · exact (at_yes h).1
            · exact (at_yes h).1
          go_wp2_with fail
          go_meet
          case rel => exact ⟨rfl, congrArg (Value.int .i64) (by have := HX.out; omega)⟩
      case rest =>
      obtain ⟨rfl, rfl⟩ := hcut
      have hroomd := digits_room s k3
      go_wp2_with fail
      refine (H.out _ _).mono ?_
      rintro e w3 ⟨rfl, hw⟩
      subst hw
      obtain ⟨dd, hdd⟩ : ∃ d, d = digitsN (s.data.toList.drop k3) := ⟨_, rfl⟩
      rw [← hdd] at hroomd ⊢
      by_cases hz : dd = 0
      · have e0 : n3 = n2 := by
          rw [H3.out]; unfold expN
          rw [← HK.out, ← hdd, if_neg (fun h => by omega)]
        have HX := Lib.hid e0
        clear e0 hdd
        subst hz
        go_wp2_with fail
        go_meet
        case rel => exact ⟨rfl, by rw [HX.out]⟩
      · have e0 : n3 = k3 + dd := by
          rw [H3.out]; unfold expN
          rw [← HK.out, ← hdd, if_pos ⟨of_decide_eq_true HE.out.symm, by omega⟩]
        have HX := Lib.hid e0
        have hpos : 0 < dd := by omega
        clear e0 hdd hz
        go_wp2_with fail
        go_meet
        case rel => exact ⟨rfl, congrArg (Value.int .i64) (by have := HX.out; omega)⟩
  case rest =>
  obtain ⟨rfl, rfl⟩ := hcut
  go_wp2_with fail
  go_ret
  exact ⟨by rw [HRES.out]; rfl, rfl⟩
end Go.Proofs.YtdfodfflkmcgpaaGreatDoor
/- nums.exponent. -/
namespace Go.Proofs.YtdfodfflkmcgpaaGreatDoor
open Go.RowKit Go.Sort
set_option linter.unusedVariables false
set_option maxRecDepth 100000
set_option maxHeartbeats 1000000 in
theorem exponent_any {B : Nat} (s : ByteArray) (neg : Bool) (X : List UInt8) (w : World) (hG : Rich B w) (hB : B ≤ w.heap.size) (hs : s.size ≤ 1000000000) (T : ExpText s.data.toList neg X) :
    Calls Tryz.prog 64 #[.string s] w fun e w' => e = .returned (.int .i64 (expCap neg X)) ∧ Below B w w' := by
  have hne : 0 < s.size := by
    rcases Nat.eq_zero_or_pos s.size with h | h
    · exfalso
      have hl : s.data.toList = [] := List.eq_nil_of_length_eq_zero h
      rcases T.form with ⟨_, h1⟩ | ⟨_, h1⟩ | ⟨_, h1⟩
      · rw [hl] at h1; cases h1
      · rw [hl] at h1; cases h1
      · rw [hl] at h1; exact T.ne h1.symm
    · exact h
  rcases atoi_text T with ⟨v, h1, h2⟩ | ⟨h1, h2⟩
  · have hcap : expCap neg X = min (max v (-1099511627776)) 1099511627776 := by unfold expCap; rw [h2]
    rw [hcap]
    clear hcap h2
    go_enter Tryz.func64, Tryz.ntmps64
    go_wp2_with fail
    refine (Tryz.strconv_Atoi_ok s (by omega) v h1 _).mono ?_
    rintro e w1 ⟨rfl, hb⟩
    have hbel : Below B w w1 := by
      rcases hb with rfl | ⟨t, hb⟩
      · exact Below.refl _ _
      · exact bw_below hB t hb
    clear hb
    go_wp2_with fail
    go_ret
    exact ⟨rfl, hbel⟩
  · obtain ⟨ev, he1, he2⟩ := hG.er
    have hneg : (((s[0].toNat : Nat) : Int) == 45) = neg := by
      have hg : s.data.toList[0]? = some s[0] := List.getElem?_eq_getElem hne
      rcases T.form with ⟨rfl, h3⟩ | ⟨rfl, h3⟩ | ⟨rfl, h3⟩
      · rw [h3] at hg
        rw [← Option.some.inj hg]; rfl
      · rw [h3] at hg
        rw [← Option.some.inj hg]; rfl
      · have := T.dig s[0] (by rw [← h3]; exact List.mem_of_getElem? hg)
        unfold isDig at this
        rw [beq_eq_false_iff_ne]; omega
    have hcap : expCap neg X = if neg then -1099511627776 else 1099511627776 := by
      unfold expCap expInt
      cases neg
      · simp; omega
      · simp; omega
    rw [hcap]
    have HN := Lib.hid hneg
    clear hneg hcap
    go_enter Tryz.func64, Tryz.ntmps64
    go_wp2_with fail
    refine (Tryz.strconv_Atoi_range s (by omega) h1 ev _ he1 he2).mono ?_
    rintro e w1 ⟨N, rfl, hN, -, hb⟩
    have hbel : Below B w w1 := hb.mono hB
    clear hb
    have hneg := HN.out
    cases neg
    · go_wp2_with fail
      go_ret
      exact ⟨rfl, hbel⟩
    · go_wp2_with fail
      go_ret
      exact ⟨rfl, hbel⟩
end Go.Proofs.YtdfodfflkmcgpaaGreatDoor
/- A JSON number is as long as its text. Of lists alone. -/
namespace Go.Proofs.YtdfodfflkmcgpaaGreatDoor
open Go.RowKit Go.Sort
set_option linter.unusedVariables false
set_option maxRecDepth 100000
theorem digB {c : UInt8} : digitB c = true ↔ isDig c := by
  unfold digitB isDig
  simp
theorem digitsN_app {A B : List UInt8} (hA : ∀ c ∈ A, isDig c) (hB : ∀ c, B[0]? = some c → ¬ isDig c) : digitsN (A ++ B) = A.length := by
  unfold digitsN
  induction A with
  | nil =>
    cases B with
    | nil => rfl
    | cons b r =>
      have : digitB b = false := by
        cases h : digitB b with
        | false => rfl
        | true => exact absurd (digB.1 h) (hB b rfl)
      simp [this]
  | cons a r ih =>
    have : digitB a = true := digB.2 (hA a List.mem_cons_self)
    simp only [List.cons_append, List.takeWhile, this, List.length_cons]
    rw [ih fun c hc => hA c (List.mem_cons_of_mem _ hc)]
theorem at_len {A B : List UInt8} {n : Nat} (h : n = A.length) : (A ++ B)[n]? = B[0]? := by
  subst h
  rw [List.getElem?_append_right (Nat.le_refl _), Nat.sub_self]
theorem drop_len {A B : List UInt8} {n : Nat} (h : n = A.length) : (A ++ B).drop n = B := by
  subst h
  simp
theorem nd_e {c : UInt8} (h : c = 101 ∨ c = 69) : ¬ isDig c := by
  rcases h with rfl | rfl <;> (unfold isDig; decide)
section
variable {l : List UInt8} {neg : Bool} {W P : List UInt8} {hasP hasE : Bool} {ec : UInt8} {xt : List UInt8} {eneg : Bool} {X : List UInt8}
theorem NumText.number (T : NumText l neg W P hasP hasE ec xt eneg X) (hw : W.length = 1 ∨ W[0]? ≠ some 48) : numberN l = l.length := by
  obtain ⟨S, hS⟩ : ∃ S : List UInt8, S = if neg then [45] else [] := ⟨_, rfl⟩
  obtain ⟨E, hE⟩ : ∃ E : List UInt8, E = if hasE then ec :: xt else [] := ⟨_, rfl⟩
  obtain ⟨Q, hQ⟩ : ∃ Q, Q = ptText hasP P := ⟨_, rfl⟩
  have hform : l = S ++ (W ++ Q ++ E) := by rw [hS, hE, hQ]; exact T.form
  have hW1 : 1 ≤ W.length := List.length_pos_iff.2 T.wne
  have hsl : S.length = neg.toNat := by rw [hS]; cases neg <;> rfl
  -- the sign
  have hsg : signN l = S.length := by
    unfold signN
    rw [hform, hS]
    cases neg
    · have : ¬ ((if false = true then [45] else []) ++ (W ++ Q ++ E))[0]? = some 45 := by
        intro h
        obtain ⟨c, r, hc⟩ : ∃ c r, W = c :: r := by
          cases hh : W with
          | nil => exact absurd hh T.wne
          | cons c r => exact ⟨c, r, rfl⟩
        rw [hc] at h
        have h2 : c = 45 := by simpa using h
        have := T.wdig c (by rw [hc]; exact List.mem_cons_self)
        rw [h2] at this
        unfold isDig at this
        revert this; decide
      rw [if_neg this]; rfl
    · rw [if_pos (by rfl)]; rfl
  have hQE : ∀ c, (Q ++ E)[0]? = some c → ¬ isDig c := by
    intro c hc
    rw [hQ, hE] at hc
    unfold ptText at hc
    cases hasP
    · cases hasE
      · cases hc
      · have : ec = c := by simpa using hc
        rw [← this]; exact nd_e (T.ec rfl)
    · have : 46 = c := by simpa using hc
      rw [← this]; unfold isDig; decide
  have hEd : ∀ c, E[0]? = some c → ¬ isDig c := by
    intro c hc
    rw [hE] at hc
    cases hasE
    · cases hc
    · have : ec = c := by simpa using hc
      rw [← this]; exact nd_e (T.ec rfl)
  have hd0 : digitsN (l.drop (signN l)) = W.length := by
    rw [hsg, hform, drop_len rfl, List.append_assoc]
    exact digitsN_app T.wdig hQE
  have hwh : wholeN l (signN l) = W.length := by
    unfold wholeN
    rw [hd0]
    split
    · rename_i h
      rw [hsg, hform, at_len rfl, List.append_assoc, List.getElem?_append_left hW1] at h
      rcases hw with h1 | h1
      · exact h1.symm
      · exact absurd h h1
    · rfl
  -- the point
  have hpt : pointN l (S.length + W.length) = (S ++ (W ++ Q)).length := by
    have hf2 : l = (S ++ W) ++ (Q ++ E) := by rw [hform]; simp
    unfold pointN
    have hat : l[S.length + W.length]? = (Q ++ E)[0]? := by rw [hf2]; exact at_len (by rw [List.length_append])
    rw [hat, hQ, hE]
    cases hasP
    · have : ¬ ((ptText false P ++ (if hasE then ec :: xt else []))[0]? = some 46 ∧ 0 < digitsN (l.drop (S.length + W.length + 1))) := by
        rintro ⟨h, -⟩
        unfold ptText at h
        cases hasE
        · cases h
        · have : ec = 46 := by simpa using h
          rcases T.ec rfl with h2 | h2 <;> (rw [h2] at this; exact absurd this (by decide))
      rw [if_neg this]
      unfold ptText
      simp
    · have hf3 : l = (S ++ W ++ [46]) ++ (P ++ E) := by rw [hform, hQ]; unfold ptText; simp
      have hdp : digitsN (l.drop (S.length + W.length + 1)) = P.length := by
        rw [hf3, drop_len (by simp only [List.length_append, List.length_cons, List.length_nil]; try omega)]
        exact digitsN_app T.pdig hEd
      have hpp : 0 < P.length := List.length_pos_iff.2 (T.pne rfl)
      rw [if_pos ⟨rfl, by rw [hdp]; exact hpp⟩, hdp]
      unfold ptText
      simp; omega
  unfold numberN
  rw [hd0, if_neg (by omega), hwh, hsg, hpt]
  -- the exponent
  have hf4 : l = (S ++ (W ++ Q)) ++ E := by rw [hform]; simp
  have hat : l[(S ++ (W ++ Q)).length]? = E[0]? := by
    conv => lhs; rw [hf4]
    exact at_len rfl
  unfold expN
  rw [hat, hE]
  cases hasE
  · have : ¬ (((if false = true then ec :: xt else [])[0]? = some 101 ∨ (if false = true then ec :: xt else [])[0]? = some 69) ∧ 0 < digitsN (l.drop (expAt l (S ++ (W ++ Q)).length))) := by
      rintro ⟨h | h, -⟩ <;> cases h
    rw [if_neg this]
    rw [hf4, hE]; simp
  · have hX := T.xt rfl
    have hxp : 0 < X.length := List.length_pos_iff.2 hX.ne
    -- where the digits begin
    obtain ⟨G, hG⟩ : ∃ G : List UInt8, xt = G ++ X ∧ expAt l (S ++ (W ++ Q)).length = (S ++ (W ++ Q) ++ [ec] ++ G).length := by
      have hf5 : l = (S ++ (W ++ Q) ++ [ec]) ++ xt := by rw [hf4, hE]; simp
      have hax : l[(S ++ (W ++ Q)).length + 1]? = xt[0]? := by
        conv => lhs; rw [hf5]
        exact at_len (by simp only [List.length_append, List.length_cons, List.length_nil]; try omega)
      unfold expAt
      rw [hax]
      rcases hX.form with ⟨_, h⟩ | ⟨_, h⟩ | ⟨_, h⟩
      · exact ⟨[45], h, by rw [h, if_pos (.inr rfl)]; simp only [List.length_append, List.length_cons, List.length_nil]; try omega⟩
      · exact ⟨[43], h, by rw [h, if_pos (.inl rfl)]; simp only [List.length_append, List.length_cons, List.length_nil]; try omega⟩
      · refine ⟨[], h, ?_⟩
        have : ¬ (xt[0]? = some 43 ∨ xt[0]? = some 45) := by
          rw [h]
          rintro (h2 | h2)
          · have := hX.dig _ (List.mem_of_getElem? h2)
            unfold isDig at this
            revert this; decide
          · have := hX.dig _ (List.mem_of_getElem? h2)
            unfold isDig at this
            revert this; decide
        rw [if_neg this]; simp only [List.length_append, List.length_cons, List.length_nil]; try omega
    have hf6 : l = (S ++ (W ++ Q) ++ [ec] ++ G) ++ X := by rw [hf4, hE, hG.1]; simp
    have hdx : digitsN (l.drop (expAt l (S ++ (W ++ Q)).length)) = X.length := by
      rw [hG.2]
      conv => lhs; rw [hf6]
      rw [drop_len rfl]
      have := digitsN_app (A := X) (B := []) hX.dig (fun c hc => by cases hc)
      rwa [List.append_nil] at this
    have hc : (if true = true then ec :: xt else [])[0]? = some ec := rfl
    rw [hc, if_pos ⟨(T.ec rfl).imp (congrArg some) (congrArg some), by rw [hdx]; exact hxp⟩, hdx, hG.2]
    conv => rhs; rw [hf6]
    simp only [List.length_append]
end
end Go.Proofs.YtdfodfflkmcgpaaGreatDoor
