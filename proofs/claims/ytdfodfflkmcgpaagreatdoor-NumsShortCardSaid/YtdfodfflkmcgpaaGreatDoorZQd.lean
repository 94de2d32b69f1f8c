/- strings by their lists; the small functions that leading calls. -/
import Derived.Test.YtdfodfflkmcgpaaGreatDoorZQa
import Derived.Test.YtdfodfflkmcgpaaGreatDoorZL
import Derived.Deep.DeepCutAuto
namespace Go.Proofs.YtdfodfflkmcgpaaGreatDoor
open Go.RowKit Go.Sort
set_option linter.unusedVariables false
set_option maxRecDepth 100000
def strL (l : List UInt8) : ByteArray := ⟨l.toArray⟩
theorem strL_list (l : List UInt8) : (strL l).data.toList = l := by simp [strL]
theorem strL_size (l : List UInt8) : (strL l).size = l.length := by simp [strL, ByteArray.size]
theorem ba_eq {a : ByteArray} {l : List UInt8} (h : a.data.toList = l) : a = strL l := ByteArray.ext (Array.ext' (by rw [strL_list]; exact h))
theorem extract_take (s : ByteArray) (n : Nat) : (s.extract 0 n).data.toList = s.data.toList.take n := by
  have : (s.extract 0 n).data = s.data.extract 0 n := ByteArray.data_extract
  rw [this, Array.toList_extract, List.extract_eq_take_drop]
  simp
theorem strL_from (l : List UInt8) (n : Nat) : (strL l).extract n (strL l).size = strL (l.drop n) := ba_eq (by rw [extract_list, strL_list])
theorem strL_to (l : List UInt8) (n : Nat) : (strL l).extract 0 n = strL (l.take n) := ba_eq (by rw [extract_take, strL_list])
theorem strL_app (a b : List UInt8) : strL a ++ strL b = strL (a ++ b) := ba_eq (by
  rw [ByteArray.data_append, Array.toList_append, strL_list, strL_list])
theorem itoa_gen {B : Nat} (n : Int) (w : World) (hG : Good B w) (hB : B ≤ w.heap.size) (h0 : -9223372036854775808 ≤ n) (h1 : n ≤ 9223372036854775807) :
    Calls Tryz.prog 115 #[.int .i64 n] w fun e w' => e = .returned (.string (strL (Lib.itoa n))) ∧ Below B w w' := by
  refine (Tryz.strconv_Itoa n (by omega) (by omega) w hG.u64p).mono fun e w' h => ⟨h.1, gr_below hB h.2⟩
theorem cut_gen {B : Nat} (l : List UInt8) (sep : UInt8) (w : World) (hG : Good B w) (hs : l.length < 4000000000) (a b : List UInt8) (k : Bool) (hc : Lib.cut l [sep] = (a, b, k)) :
    Calls Tryz.prog 65 #[.string (strL l), .string ⟨#[sep]⟩] w fun e w' => e = .returned (.tuple #[.string (strL a), .string (strL b), .bool k]) ∧ Below B w w' := by
  obtain ⟨m, hm⟩ := hG.maxLen
  refine (Tryz.strings_Cut (strL l) ⟨#[sep]⟩ m w (by rw [strL_size]; omega) hm).mono fun e w' h => ?_
  obtain ⟨h1, n, h2⟩ := h
  have e1 : (ByteArray.mk #[sep]).data.toList = [sep] := rfl
  rw [e1, strL_list, hc] at h1
  exact ⟨h1, by rw [h2]; exact below_drewN (Below.refl _ _) n⟩
theorem trimLeft_gen (l : List UInt8) (w : World) : Calls Tryz.prog 66 #[.string (strL l), .string ⟨#[48]⟩] w fun e w' => e = .returned (.string (strL (l.dropWhile (· == 48)))) ∧ w' = w := by
  have := Tryz.strings_TrimLeft_one (strL l) 48 (by decide) w
  rw [strL_list] at this
  exact this
theorem cutPrefix_gen (l : List UInt8) (w : World) : Calls Tryz.prog 60 #[.string (strL l), .string ⟨#[45]⟩] w fun e w' => e = .returned (.tuple #[.string (strL (Lib.trimPrefix l [45])), .bool (Lib.hasPrefix l [45])]) ∧ w' = w := by
  have := Tryz.strings_CutPrefix (strL l) ⟨#[45]⟩ w
  rw [strL_list] at this
  exact this
theorem indexAny_gen {B : Nat} (l : List UInt8) (w : World) (hB : B ≤ w.heap.size) (hs : l.length < 4000000000) (has : ∀ b ∈ l, b.toNat < 128) :
    Calls Tryz.prog 63 #[.string (strL l), .string ⟨#[101, 69]⟩] w fun e w' => e = .returned (.int .i64 (Lib.indexAny l [101, 69])) ∧ Below B w w' := by
  have := Tryz.strings_IndexAny_laid (strL l) ⟨#[101, 69]⟩ w (by rw [strL_size]; omega) (by decide) (fun j b hj => has b (List.mem_of_getElem? (by rw [strL_list] at hj; exact hj))) (fun j b hj => ?_)
  · rw [strL_list] at this
    exact this.mono fun e w' ⟨he, hb⟩ => ⟨he, hb.mono hB⟩
  · have : b ∈ [101, 69] := List.mem_of_getElem? hj
    simp at this
    rcases this with rfl | rfl <;> decide
end Go.Proofs.YtdfodfflkmcgpaaGreatDoor
/- nums.leading, of a number that is not below nought: one digit ahead of the point. -/
namespace Go.Proofs.YtdfodfflkmcgpaaGreatDoor
open Go.RowKit Go.Sort
set_option linter.unusedVariables false
set_option maxRecDepth 100000
set_option maxHeartbeats 40000000 in
theorem leading_pos {B : Nat} {l : List UInt8} {W P : List UInt8} {hasP hasE : Bool} {ec : UInt8} {xt : List UInt8} {eneg : Bool} {X : List UInt8} (T : NumText l false W P hasP hasE ec xt eneg X)
   (w : World) (hG : Rich B w) (hB : B ≤ w.heap.size) (hs : l.length ≤ 1000000000) :
    Calls Tryz.prog 87 #[.string (strL l)] w fun e w' => e = .returned (.string (strL (leadText false (leadDigits (W ++ P)) (leadPow W P hasE eneg X)))) ∧ Below B w w' := by
  obtain ⟨lp, hlp0⟩ : ∃ lp, lp = leadPow W P hasE eneg X := ⟨_, rfl⟩
  rw [← hlp0]
  have HL0 := Lib.hid hlp0
  obtain ⟨D, hD0⟩ : ∃ D, D = leadDigits (W ++ P) := ⟨_, rfl⟩
  rw [← hD0]
  have HD0 := Lib.hid hD0
  clear hlp0 hD0
  have hT := Lib.hid T
  obtain ⟨t1, t2⟩ := T.trim
  have hcp := fun w => cutPrefix_gen l w
  rw [t1, t2] at hcp
  obtain ⟨bd, hbd⟩ : ∃ b, b = bodyOf W P hasP hasE ec xt := ⟨_, rfl⟩
  rw [← hbd] at hcp
  have hbl : bd.length ≤ 1000000000 := by
    have h1 := congrArg List.length T.form
    rw [List.length_append] at h1
    have h2 : bd.length = (W ++ ptText hasP P ++ (if hasE then ec :: xt else [])).length := by rw [hbd]; rfl
    omega
  have hix := T.index
  have has := T.ascii
  rw [← hbd] at hix has
  have HC := Lib.hid hcp
  have HI := Lib.hid hix
  have HA := Lib.hid has
  have HB := Lib.hid hbd
  clear t1 t2 hcp hix has hbd T
  go_enter Tryz.func87, Tryz.ntmps87
  go_wp2_with fail
  refine (HC.out _).mono ?_
  rintro e w2 ⟨rfl, hw⟩
  subst hw
  go_wp2_with fail
  refine (indexAny_gen bd _ hB (by omega) HA.out).mono ?_
  rintro e w3 ⟨rfl, hb3⟩
  have hG3 := hG.below hb3
  have hB3 := Nat.le_trans hB hb3.size
  rw [HI.out]
  obtain ⟨ix, hix⟩ : ∃ ix : Int, ix = if hasE then (((W ++ ptText hasP P).length : Nat) : Int) else -1 := ⟨_, rfl⟩
  rw [← hix]
  have HX := Lib.hid hix
  clear hix
  obtain ⟨pw, hpw⟩ : ∃ pw : Int, pw = if hasE then expCap eneg X else 0 := ⟨_, rfl⟩
  have HP := Lib.hid hpw
  clear hpw
  have hBw : Below B w3 w3 := Below.refl _ _
  go_upto_if 19 with fail
  go_cut [3, 5, 18, 19] (fun s3 s5 s18 s19 wx => Below B w3 wx ∧ s3 = .string (strL (W ++ ptText hasP P)) ∧ s5 = .int .i64 pw)
  case first =>
    cases hasE
    · as_aux_lemma =>
        have e1 : ix = -1 := HX.out
        have e2 : pw = 0 := HP.out
        have e3 : bd = W ++ ptText hasP P := by
          rw [HB.out]; unfold bodyOf
          rw [if_neg (by simp), List.append_nil]
        have HE := Lib.hid (And.intro e2 e3)
        subst e1
        clear e2 e3
        go_wp2_with fail
        go_meet
        case rel => exact ⟨hBw, by rw [HE.out.2], by rw [HE.out.1]⟩
    · as_aux_lemma =>
        have e1 : ix = (((W ++ ptText hasP P).length : Nat) : Int) := HX.out
        have e2 : pw = expCap eneg X := HP.out
        have e3 : bd = W ++ ptText hasP P ++ ec :: xt := by rw [HB.out]; rfl
        obtain ⟨n, hn⟩ : ∃ n, n = (W ++ ptText hasP P).length := ⟨_, rfl⟩
        have hnl : n + 1 ≤ (strL bd).size := by rw [strL_size, e3, hn]; simp; omega
        have hbz : (strL bd).size ≤ 1000000000 := by rw [strL_size]; exact hbl
        have e4 : bd.drop (n + 1) = xt := by
          rw [e3, hn, List.drop_append, List.drop_eq_nil_of_le (by omega)]
          simp
        have e5 : bd.take n = W ++ ptText hasP P := by rw [e3, hn, List.take_append_of_le_length (Nat.le_refl _), List.take_length]
        have e6 : ix = (n : Int) := by rw [e1, hn]
        have hxl : (strL xt).size ≤ 1000000000 := by rw [strL_size, ← e4, List.length_drop]; omega
        have HE := Lib.hid (And.intro e2 (And.intro e4 e5))
        subst e6
        clear e1 e2 e3 e4 e5 hn
        go_wp2_with fail
        rw [strL_from, HE.out.2.1]
        refine (exponent_any (strL xt) eneg X _ hG3 hB3 hxl (by rw [strL_list]; exact hT.out.xt rfl)).mono ?_
        rintro e w4 ⟨rfl, hb4⟩
        go_wp2_with fail
        go_meet
        case rel => exact ⟨hb4, by rw [strL_to, HE.out.2.2], by rw [HE.out.1]⟩
  case rest =>
  obtain ⟨hbc, rfl, rfl⟩ := hcut
  have hGc := hG3.below hbc
  have hBc := Nat.le_trans hB3 hbc.size
  have hbel := hb3.trans hbc
  clear hbc hb3 hG3 hB3 hBw
  have hcut := cut_point (W := W) (P := P) (hasP := hasP) hT.out.wdig hT.out.pnone
  have hwl : (W ++ ptText hasP P).length ≤ 1000000000 := by
    have h1 : bd.length = (W ++ ptText hasP P ++ (if hasE then ec :: xt else [])).length := by rw [HB.out]; rfl
    rw [List.length_append] at h1
    omega
  go_wp2_with fail
  refine (cut_gen (W ++ ptText hasP P) 46 _ hGc.toGood (by omega) W P hasP hcut).mono ?_
  rintro e w5 ⟨rfl, hb5⟩
  have hG5 := hGc.below hb5
  have hB5 := Nat.le_trans hBc hb5.size
  have hbel5 := hbel.trans hb5
  clear hcut hb5 hbel hGc hBc
  have hsW : (strL W).size ≤ 1000000000 := by rw [strL_size]; rw [List.length_append] at hwl; omega
  have hpl : P.length ≤ (ptText hasP P).length := by
    unfold ptText
    cases hasP
    · rw [hT.out.pnone rfl]; simp
    · simp
  have hsP : (strL P).size ≤ 1000000000 := by rw [strL_size]; rw [List.length_append] at hwl; omega
  have hsum : (strL W).size + (strL P).size ≤ 1000000000 := by rw [strL_size, strL_size]; rw [List.length_append] at hwl; omega
  go_wp2_with fail
  rw [strL_app]
  refine (trimLeft_gen (W ++ P) _).mono ?_
  rintro e w6 ⟨rfl, hw⟩
  rw [hw]
  clear hw w6
  have hD := HD0.out
  have hlp := HL0.out
  have hD1 : 1 ≤ D.length := by
    rw [hD]
    exact List.length_pos_iff.2 leadDigits_ne
  have hD2 : D.length ≤ 1000000001 := by
    rw [hD]
    have h1 := leadDigits_len (W ++ P)
    rw [List.length_append] at h1 hwl
    omega
  have hpwb : -1099511627776 ≤ pw ∧ pw ≤ 1099511627776 := by
    rw [HP.out]
    unfold expCap
    split <;> omega
  have hlpe : lp = pw + ((D.length : Int) - 1 - P.length) := by rw [hlp, HP.out, hD]; rfl
  obtain ⟨dz, hdz⟩ : ∃ dz, dz = (W ++ P).dropWhile (· == 48) := ⟨_, rfl⟩
  rw [← hdz]
  have hDz : D = if dz = [] then [48] else dz := by rw [hD, hdz]; rfl
  obtain ⟨zb, hzb⟩ : ∃ zb, zb = dz.isEmpty := ⟨_, rfl⟩
  have hem : (strL dz).toList.isEmpty = zb := by rw [hzb, ByteArray.toList_eq, strL_list]
  have HD := Lib.hid hDz
  have HL := Lib.hid hlpe
  have HM := Lib.hid hem
  have HZB := Lib.hid hzb
  clear hD hlp hlpe hdz hDz hem hzb
  go_upto_region 9 with fail
  go_cut [39] (fun s39 wx => wx = w5 ∧ s39 = .bool zb)
  case first =>
    go_wp2_with fail
    go_meet
    case rel => exact ⟨rfl, congrArg Value.bool HM.out⟩
  case rest =>
  obtain ⟨hw, rfl⟩ := hcut
  subst hw
  go_upto_if 39 with fail
  go_cut [10, 39] (fun s10 s39 wx => wx = wc ∧ s10 = .string (strL D))
  case first =>
    cases zb
    · have e1 : D = dz := by
        rw [HD.out, if_neg]
        intro h
        have := HZB.out
        rw [h] at this
        cases this
      have HE := Lib.hid e1
      clear e1
      go_wp2_with fail
      go_meet
      case rel => exact ⟨rfl, by rw [HE.out]⟩
    · have e1 : D = [48] := by
        rw [HD.out, if_pos (List.isEmpty_iff.1 HZB.out.symm)]
      have HE := Lib.hid e1
      clear e1
      go_wp2_with fail
      go_meet
      case rel => exact ⟨rfl, by rw [HE.out]; rfl⟩
  case rest =>
  obtain ⟨hw, rfl⟩ := hcut
  subst hw
  have hsD : (strL D).size = D.length := strL_size D
  have hsP2 : (strL P).size = P.length := strL_size P
  have HSZ := Lib.hid (And.intro hsD hsP2)
  have hsD0 : (strL D).size ≤ 1000000001 := by omega
  have hsD1 : 1 ≤ (strL D).size := by omega
  clear hsD hsP2
  go_upto_region 11 with fail
  go_cut [5] (fun s5 wx => wx = wc ∧ s5 = .int .i64 lp)
  case first =>
    go_wp2_with fail
    go_meet
    case rel => exact ⟨rfl, congrArg (Value.int .i64) (by have := HL.out; have := HSZ.out; omega)⟩
  case rest =>
  obtain ⟨hw, rfl⟩ := hcut
  subst hw
  have hlpb : -9223372036854775808 ≤ lp ∧ lp ≤ 9223372036854775807 := by have := HL.out; have := HSZ.out; omega
  obtain ⟨it, hit⟩ : ∃ it, it = strL (Lib.itoa lp) := ⟨_, rfl⟩
  have hitl : it.size ≤ 21 := by rw [hit, strL_size]; exact Lib.itoa_length_le lp hlpb.1 hlpb.2
  have hio : ∀ W', Rich B W' → B ≤ W'.heap.size → Calls Tryz.prog 115 #[.int .i64 lp] W' fun e w' => e = .returned (.string it) ∧ Below B W' w' := by
    intro W' h1 h2
    rw [hit]
    exact itoa_gen lp W' h1.toGood h2 hlpb.1 hlpb.2
  obtain ⟨a1, ha1⟩ : ∃ a, a = strL (D.take 1) := ⟨_, rfl⟩
  obtain ⟨a2, ha2⟩ : ∃ a, a = strL (D.drop 1) := ⟨_, rfl⟩
  have ha1l : a1.size ≤ 1 := by rw [ha1, strL_size]; exact List.length_take_le _ _
  have ha2l : a2.size ≤ 1000000001 := by rw [ha2, strL_size, List.length_drop]; omega
  have hx1 : (strL D).extract 0 1 = a1 := by rw [strL_to, ha1]
  have hx2 : (strL D).extract 1 (strL D).size = a2 := by rw [strL_from, ha2]
  have HIO := Lib.hid hio
  have HAA := Lib.hid (And.intro hit (And.intro ha1 ha2))
  clear hio hit ha1 ha2 hlpb
  have hfin : a1 ++ ByteArray.mk #[46] ++ a2 ++ ByteArray.mk #[101] ++ it = strL (leadText false D lp) := by
    rw [HAA.out.1, HAA.out.2.1, HAA.out.2.2, show ByteArray.mk #[46] = strL [46] from rfl, show ByteArray.mk #[101] = strL [101] from rfl]
    simp only [strL_app]
    congr 1
    try unfold leadText
    try simp
  have HFIN := Lib.hid hfin
  have f1 : ¬ 9223372036854775807 < a1.size + 1 := by omega
  have f2 : ¬ 9223372036854775807 < a1.size + 1 + a2.size := by omega
  have f3 : ¬ 9223372036854775807 < a1.size + 1 + a2.size + 1 := by omega
  have f4 : ¬ 9223372036854775807 < a1.size + 1 + a2.size + 1 + it.size := by omega
  have f0 : ¬ 9223372036854775807 < 1 + a1.size := by omega
  clear hfin
  go_wp2_with fail
  go_region_with (first | (go_at_call 115; refine (HIO.out _ (by first | exact hG5 | exact hG5.below (below_drewN (Below.refl _ _) _)) (by first | exact hB5 | (simp; exact hB5))).mono ?_; rintro e' w' ⟨rfl, hb4⟩))
  all_goals (go_wp2_with fail; go_ret; exact ⟨by rw [← HFIN.out]; rfl, hbel5.trans (by first | exact hb4 | exact (below_drewN (Below.refl _ _) _).trans hb4 | exact below_drewN hb4 _ | exact below_drewN ((below_drewN (Below.refl _ _) _).trans hb4) _)⟩)
end Go.Proofs.YtdfodfflkmcgpaaGreatDoor
