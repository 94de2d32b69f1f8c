/- nums.fit: a whole number's bits, or the error. -/
import Derived.Test.YtdfodfflkmcgpaaGreatDoorZN
import Derived.Test.YtdfodfflkmcgpaaGreatDoorZQd
import Derived.Test.YtdfodfflkmcgpaaGreatDoorZS
import Derived.Test.YtdfodfflkmcgpaaGreatDoorZQe
import Derived.Test.YtdfodfflkmcgpaaGreatDoorZC1
namespace Go.Proofs.YtdfodfflkmcgpaaGreatDoor
open Go.RowKit Go.Sort
set_option linter.unusedVariables false
set_option maxRecDepth 100000
/-- what fit comes to: the bits; none: out of range. -/
def fitN (k : Int) (minus : Bool) (N : Nat) : Option Int :=
  if 18446744073709551616 ≤ N then none
  else if minus = true ∧ (if sortN k = 2 ∨ sortN k = 3 then 9223372036854775808 else 0) < N then none
  else if minus = false ∧ (sortN k = 2 ∨ sortN k = 3) ∧ 9223372036854775808 ≤ N then none
  else if fitsN k (if minus then ((18446744073709551616 - N) % 18446744073709551616 : Nat) else N) = true then some (if minus then ((18446744073709551616 - N) % 18446744073709551616 : Nat) else N) else none
def outN (o : Option Int) : Value := match o with
  | some b => .tuple #[.int .u64 b, .int .i64 0]
  | none => .tuple #[.int .u64 0, .int .i64 31]
set_option maxHeartbeats 2000000 in
theorem fit_any {B : Nat} (k : Int) (minus : Bool) (l : List UInt8) (w : World) (hG : Rich B w) (hB : B ≤ w.heap.size) (hl : ∀ c ∈ l, isDig c) (hne : l ≠ []) (hs : l.length ≤ 1000000000) :
    Calls Tryz.prog 62 #[.int .u8 k, .bool minus, .string (strL l)] w fun e w' => e = .returned (outN (fitN k minus (natOf l))) ∧ Below B w w' := by
  have hp := parseUint_digits hl hne
  have hsz : (strL l).size ≤ 1000000000 := by rw [strL_size]; exact hs
  rcases Nat.lt_or_ge (natOf l) 18446744073709551616 with hN | hN
  · rw [if_pos hN] at hp
    obtain ⟨N, hNe⟩ : ∃ N, N = natOf l := ⟨_, rfl⟩
    rw [← hNe] at hp hN ⊢
    have hp2 : Lib.parseUintB 64 (strL l).data.toList = .ok N := by rw [strL_list]; exact hp
    have HP := Lib.hid hp2
    -- the sort
    obtain ⟨sg, hsg⟩ : ∃ sg : Bool, sg = decide (sortN k = 2 ∨ sortN k = 3) := ⟨_, rfl⟩
    have HSG := Lib.hid hsg
    have hsort := fun w => sort_any k w
    have hsr := sort_cases k
    obtain ⟨s, hse⟩ : ∃ s, s = sortN k := ⟨_, rfl⟩
    rw [← hse] at hsort hsr
    have HSO := Lib.hid hsort
    have HSE := Lib.hid hse
    obtain ⟨M, hM⟩ : ∃ M : Nat, M = if minus then (18446744073709551616 - N) % 18446744073709551616 else N := ⟨_, rfl⟩
    have hMl : M < 18446744073709551616 := by rw [hM]; split <;> omega
    have HM := Lib.hid hM
    obtain ⟨fb, hfb⟩ : ∃ fb, fb = fitsN k M := ⟨_, rfl⟩
    have hfits := fun w => fits_any k M w (by omega) (by omega)
    rw [← hfb] at hfits
    have HF := Lib.hid hfits
    have HFB := Lib.hid hfb
    obtain ⟨least, hle⟩ : ∃ least : Int, least = if sg then 9223372036854775808 else 0 := ⟨_, rfl⟩
    have HLE := Lib.hid hle
    have hlb : 0 ≤ least ∧ least ≤ 9223372036854775808 := by rw [hle]; split <;> omega
    -- does it lie out of range?
    obtain ⟨bad, hbad⟩ : ∃ bad : Bool, bad = (if minus then decide (least < N) else (sg && decide (least ≤ N))) := ⟨_, rfl⟩
    have HBAD := Lib.hid hbad
    have hres : fitN k minus N = if bad then none else if fb then some (M : Int) else none := by
      unfold fitN
      rw [if_neg (by omega)]
      have hMi : (if minus = true then (((18446744073709551616 - N) % 18446744073709551616 : Nat) : Int) else N) = (M : Int) := by
        rw [hM]; cases minus <;> rfl
      rw [hMi, ← hfb, hbad, hle, hsg]
      by_cases h2 : sortN k = 2 ∨ sortN k = 3
      · rw [decide_eq_true h2]
        cases minus
        · simp [h2]
          by_cases h5 : 9223372036854775808 ≤ N
          · simp [h5, show (9223372036854775808 : Int) ≤ N by omega]
          · simp [h5, show ¬ (9223372036854775808 : Int) ≤ N by omega]
        · simp [h2]
          by_cases h5 : 9223372036854775808 < N
          · simp [h5, show (9223372036854775808 : Int) < N by omega]
          · simp [h5, show ¬ (9223372036854775808 : Int) < N by omega]
      · rw [decide_eq_false h2]
        cases minus
        · simp [h2]
        · simp [h2]
    have HRES := Lib.hid hres
    clear hp hp2 hNe hsg hsort hse hM hfb hfits hle hbad hres
    go_enter Tryz.func62, Tryz.ntmps62
    go_wp2_with fail
    refine (Tryz.strconv_ParseUint_10_at64_ok (strL l) (by omega) N HP.out _).mono ?_
    rintro e w1 ⟨rfl, hw⟩
    have hbel : Below B w w1 := by
      rcases hw with rfl | hw
      · exact Below.refl _ _
      · exact bw_below hB _ hw
    clear hw
    go_wp2_with fail
    refine (HSO.out _).mono ?_
    rintro e w2 ⟨rfl, hw⟩
    subst hw
    go_upto_region 6 with fail
    go_cut [26] (fun s26 wx => wx = w2 ∧ s26 = .bool sg)
    case first =>
      have hsgv : sg = decide (s = 2 ∨ s = 3) := by rw [HSG.out, ← HSE.out]
      have HV := Lib.hid hsgv
      clear hsgv
      rcases hsr with rfl | rfl | rfl | rfl | rfl | rfl | rfl | rfl
      all_goals (go_wp2_with fail; go_meet; exact ⟨rfl, by rw [HV.out]; rfl⟩)
    case rest =>
    obtain ⟨hw, rfl⟩ := hcut
    subst hw
    go_upto_if 26 with fail
    go_cut [10, 26] (fun s10 s26 wx => wx = wc ∧ s10 = .int .u64 least)
    case first =>
      cases sg
      · go_wp2_with fail
        go_meet
        case rel => exact ⟨rfl, by rw [HLE.out]; rfl⟩
      · go_wp2_with fail
        go_meet
        case rel => exact ⟨rfl, by rw [HLE.out]; rfl⟩
    case rest =>
    obtain ⟨hw, rfl⟩ := hcut
    subst hw
    have hres := HRES.out
    cases minus
    · have hM : M = N := HM.out
      subst hM
      cases sg
      · have hl0 : least = 0 := HLE.out
        have hb0 : bad = false := HBAD.out
        subst hb0
        subst hl0
        clear hres
        go_wp2_with fail
        refine (HF.out _).mono ?_
        rintro e w3 ⟨rfl, hw⟩
        subst hw
        cases fb
        · go_wp2_with fail
          go_ret2
          exact ⟨by rw [HRES.out]; rfl, hbel⟩
        · go_wp2_with fail
          go_ret2
          exact ⟨by rw [HRES.out]; rfl, hbel⟩
      · have hl0 : least = 9223372036854775808 := HLE.out
        subst hl0
        clear hres
        by_cases hx : (9223372036854775808 : Int) ≤ (M : Int)
        · have hb0 : bad = true := by rw [HBAD.out]; simp [hx]
          subst hb0
          go_wp2_with fail
          go_ret2
          exact ⟨by rw [HRES.out]; rfl, hbel⟩
        · have hb0 : bad = false := by rw [HBAD.out]; simp [hx]
          subst hb0
          go_wp2_with fail
          refine (HF.out _).mono ?_
          rintro e w3 ⟨rfl, hw⟩
          subst hw
          cases fb
          · go_wp2_with fail
            go_ret2
            exact ⟨by rw [HRES.out]; rfl, hbel⟩
          · go_wp2_with fail
            go_ret2
            exact ⟨by rw [HRES.out]; rfl, hbel⟩
    · clear hres
      by_cases hx : least < (N : Int)
      · have hb0 : bad = true := by rw [HBAD.out]; simp [hx]
        subst hb0
        go_wp2_with fail
        go_ret2
        exact ⟨by rw [HRES.out]; rfl, hbel⟩
      · have hb0 : bad = false := by rw [HBAD.out]; simp [hx]
        subst hb0
        have hwn : IntKind.u64.wrap (-(N : Int)) = (M : Int) := by
          have := HM.out
          rw [if_pos rfl] at this
          rw [IntKind.wrap_u64]; omega
        have HWN := Lib.hid hwn
        clear hwn
        go_wp2_with fail
        rw [HWN.out]
        refine (HF.out _).mono ?_
        rintro e w3 ⟨rfl, hw⟩
        subst hw
        cases fb
        · go_wp2_with fail
          go_ret2
          exact ⟨by rw [HRES.out]; rfl, hbel⟩
        · go_wp2_with fail
          go_ret2
          refine ⟨?_, hbel⟩
          rw [HRES.out, ← HWN.out]
          rfl
  · rw [if_neg (by omega)] at hp
    have hp2 : Lib.parseUintB 64 (strL l).data.toList = .range := by rw [strL_list]; exact hp
    obtain ⟨ev, he1, he2⟩ := hG.er
    have hres : outN (fitN k minus (natOf l)) = .tuple #[.int .u64 0, .int .i64 31] := by
      unfold fitN; rw [if_pos hN]; rfl
    rw [hres]
    have HP := Lib.hid hp2
    clear hp hp2 hres
    go_enter Tryz.func62, Tryz.ntmps62
    go_wp2_with fail
    refine (Tryz.strconv_ParseUint_10_at64_range (strL l) (by omega) HP.out ev _ he1 he2).mono ?_
    rintro e w1 ⟨n, rfl, -, -, hb⟩
    have hbel := hb.mono hB
    clear hb
    go_wp2_with fail
    go_ret2
    exact ⟨rfl, hbel⟩
end Go.Proofs.YtdfodfflkmcgpaaGreatDoor
/- Read of integer kinds, at every text. -/
namespace Go.Proofs.YtdfodfflkmcgpaaGreatDoor
open Go.RowKit Go.Sort
set_option linter.unusedVariables false
set_option maxRecDepth 100000
/-- an integer's text: digits without a nought ahead, behind a sign or none. -/
def intForm (l : List UInt8) : Bool := !(Lib.trimPrefix l [45]).isEmpty && (digitsN (Lib.trimPrefix l [45]) == (Lib.trimPrefix l [45]).length) && !(decide ((Lib.trimPrefix l [45])[0]? = some 48) && l != [48])
def readN (k : Int) (l : List UInt8) : Value := if intForm l then outN (fitN k (Lib.hasPrefix l [45]) (natOf (Lib.trimPrefix l [45]))) else .tuple #[.int .u64 0, .int .i64 30]
theorem all_digits {l : List UInt8} (h : digitsN l = l.length) : ∀ c ∈ l, isDig c := by
  unfold digitsN at h
  induction l with
  | nil => intro c hc; cases hc
  | cons a r ih =>
    cases ha : digitB a with
    | false => simp [List.takeWhile, ha] at h
    | true =>
      simp only [List.takeWhile, ha, List.length_cons] at h
      intro c hc
      rcases List.mem_cons.1 hc with hc | hc
      · subst hc
        unfold digitB at ha
        unfold isDig
        simpa using ha
      · exact ih (by omega) c hc
set_option maxHeartbeats 2000000 in
theorem read_int {B : Nat} (k : Int) (l : List UInt8) (w : World) (hG : Rich B w) (hB : B ≤ w.heap.size) (hs : l.length ≤ 1000000000) (hk : sortN k = 2 ∨ sortN k = 3 ∨ sortN k = 4 ∨ sortN k = 5) :
    Calls Tryz.prog 28 #[.int .u8 k, .string (strL l)] w fun e w' => e = .returned (readN k l) ∧ Below B w w' := by
  have hsort := fun w => sort_any k w
  obtain ⟨s, hse⟩ : ∃ s, s = sortN k := ⟨_, rfl⟩
  rw [← hse] at hsort hk
  have HSO := Lib.hid hsort
  obtain ⟨r, hr⟩ : ∃ r, r = Lib.trimPrefix l [45] := ⟨_, rfl⟩
  obtain ⟨mn, hmn⟩ : ∃ mn, mn = Lib.hasPrefix l [45] := ⟨_, rfl⟩
  have hcp := fun w => cutPrefix_gen l w
  rw [← hr, ← hmn] at hcp
  have HC := Lib.hid hcp
  have hrl : r.length ≤ 1000000000 := by
    rw [hr]; unfold Lib.trimPrefix
    split
    · rw [List.length_drop]; omega
    · exact hs
  have hrd : readN k l = if (!r.isEmpty && (digitsN r == r.length) && !(decide (r[0]? = some 48) && l != [48])) then outN (fitN k mn (natOf r)) else .tuple #[.int .u64 0, .int .i64 30] := by
    rw [hr, hmn]; rfl
  have HRD := Lib.hid hrd
  have hzt : (strL l).toList = l := by rw [ByteArray.toList_eq, strL_list]
  have HZ := Lib.hid hzt
  clear hsort hse hr hmn hcp hrd hzt
  go_enter Tryz.func28, Tryz.ntmps28
  go_wp2_with fail
  refine (HSO.out _).mono ?_
  rintro e w2 ⟨rfl, hw⟩
  subst hw
  go_upto_region 15 with fail
  go_wp2_with fail
  refine (HC.out _).mono ?_
  rintro e w3 ⟨rfl, hw⟩
  subst hw
  obtain ⟨bad, hbad⟩ : ∃ bad : Bool, bad = !(!r.isEmpty && (digitsN r == r.length) && !(decide (r[0]? = some 48) && l != [48])) := ⟨_, rfl⟩
  have HBAD := Lib.hid hbad
  clear hbad
  by_cases hr0 : r = []
  · have hb0 : bad = true := by rw [HBAD.out, hr0]; rfl
    have e0 : strL r = ⟨#[]⟩ := by rw [hr0]; rfl
    have HB0 := Lib.hid hb0
    clear hb0
    rw [e0]
    go_wp2_with fail
    go_ret2
    have hb := HBAD.out
    rw [HB0.out] at hb
    have hr1 : readN k l = .tuple #[.int .u64 0, .int .i64 30] := by rw [HRD.out, if_neg (by rw [hr0]; simp)]
    exact ⟨by rw [hr1]; rfl, Below.refl _ _⟩
  · have hrz : 0 < r.length := List.length_pos_iff.2 hr0
    have hie : (strL r).toList.isEmpty = false := by
      rw [ByteArray.toList_eq, strL_list]
      cases r with
      | nil => exact absurd rfl hr0
      | cons a b => rfl
    have hrs : (strL r).size = r.length := strL_size r
    have hsz0 : 0 < (strL r).size := by omega
    have hD := fun w => digits_any (strL r) w (by omega)
    rw [strL_list] at hD
    have hdl : digitsN r ≤ r.length := digitsN_le r
    have HD := Lib.hid hD
    have HRS := Lib.hid hrs
    have hg : r[0]? = some (strL r)[0] := by
      have h1 : (strL r).data.toList[0]? = some (strL r)[0] := List.getElem?_eq_getElem hsz0
      rw [strL_list] at h1
      exact h1
    have HG0 := Lib.hid hg
    have hbv : bad = (!(digitsN r == r.length) || (decide (r[0]? = some 48) && l != [48])) := by
      rw [HBAD.out]
      have : r.isEmpty = false := by
        cases r with
        | nil => exact absurd rfl hr0
        | cons a b => rfl
      rw [this]
      cases (digitsN r == r.length) <;> cases (decide (r[0]? = some 48) && l != [48]) <;> rfl
    have HBV := Lib.hid hbv
    clear hD hrs hg hbv hr0
    go_wp2_with fail
    refine (HD.out _).mono ?_
    rintro e w4 ⟨rfl, hw⟩
    subst hw
    go_wp2_with fail
    · have h1 : (digitsN r : Int) = ((strL r).size : Int) := by assumption
      have h2 : (((strL r)[0]).toNat : Int) = 48 := by assumption
      have h3 : (!(strL l).toList == [48]) = true := by assumption
      have e1 : digitsN r = r.length := by have := HRS.out; omega
      have e2 : r[0]? = some 48 := by rw [HG0.out]; congr 1; exact UInt8.toNat_inj.1 (by have h4 : (48 : UInt8).toNat = 48 := rfl; rw [h4]; omega)
      have e3 : (l != [48]) = true := by rw [HZ.out] at h3; exact h3
      have hr1 : readN k l = .tuple #[.int .u64 0, .int .i64 30] := by
        rw [HRD.out, if_neg]
        rw [e2, e3]; simp
      go_ret2
      exact ⟨by rw [hr1]; rfl, Below.refl _ _⟩
    · have h1 : (digitsN r : Int) = ((strL r).size : Int) := by assumption
      have h3 : (!(strL l).toList == [48]) = false := by assumption
      have e1 : digitsN r = r.length := by have := HRS.out; omega
      have e3 : (l != [48]) = false := by rw [HZ.out] at h3; exact h3
      have hrd2 : readN k l = outN (fitN k mn (natOf r)) := by
        rw [HRD.out, if_pos]
        rw [e1, e3]
        cases r with
        | nil => exact absurd hrz (by decide)
        | cons a b => simp
      have HR2 := Lib.hid hrd2
      clear hrd2
      refine (fit_any k mn r _ hG hB (all_digits e1) (List.length_pos_iff.1 hrz) hrl).mono ?_
      rintro e w5 ⟨rfl, hbw⟩
      obtain ⟨y, z, hyz⟩ : ∃ y z, outN (fitN k mn (natOf r)) = .tuple #[.int .u64 y, .int .i64 z] := by
        unfold outN; split <;> exact ⟨_, _, rfl⟩
      rw [hyz] at HR2 ⊢
      go_wp2_with fail
      go_ret2
      exact ⟨by rw [HR2.out]; rfl, hbw⟩
    · have h1 : (digitsN r : Int) = ((strL r).size : Int) := by assumption
      have h2 : ¬ (((strL r)[0]).toNat : Int) = 48 := by assumption
      have e1 : digitsN r = r.length := by have := HRS.out; omega
      have e2 : ¬ r[0]? = some 48 := by
        rw [HG0.out]; intro hh; injection hh with hh; rw [hh] at h2; exact h2 rfl
      have hrd2 : readN k l = outN (fitN k mn (natOf r)) := by
        rw [HRD.out, if_pos]
        rw [e1, decide_eq_false e2]
        cases r with
        | nil => exact absurd hrz (by decide)
        | cons a b => simp
      have HR2 := Lib.hid hrd2
      clear hrd2
      refine (fit_any k mn r _ hG hB (all_digits e1) (List.length_pos_iff.1 hrz) hrl).mono ?_
      rintro e w5 ⟨rfl, hbw⟩
      obtain ⟨y, z, hyz⟩ : ∃ y z, outN (fitN k mn (natOf r)) = .tuple #[.int .u64 y, .int .i64 z] := by
        unfold outN; split <;> exact ⟨_, _, rfl⟩
      rw [hyz] at HR2 ⊢
      go_wp2_with fail
      go_ret2
      exact ⟨by rw [HR2.out]; rfl, hbw⟩
    · have h1 : ¬ (digitsN r : Int) = ((strL r).size : Int) := by assumption
      have e1 : ¬ digitsN r = r.length := by have := HRS.out; omega
      have hr1 : readN k l = .tuple #[.int .u64 0, .int .i64 30] := by
        rw [HRD.out, if_neg]
        have : (digitsN r == r.length) = false := beq_false_of_ne e1
        rw [this]; simp
      go_ret2
      exact ⟨by rw [hr1]; rfl, Below.refl _ _⟩
end Go.Proofs.YtdfodfflkmcgpaaGreatDoor
/- Whole of integer kinds, at every text of a number. -/
namespace Go.Proofs.YtdfodfflkmcgpaaGreatDoor
open Go.RowKit Go.Sort
set_option linter.unusedVariables false
set_option maxRecDepth 100000
/-- without the noughts behind. -/
def trimR (l : List UInt8) : List UInt8 := Lib.trimRightB l 48
theorem dropWhile_split (l : List UInt8) : ∃ z, l = zerosL z ++ l.dropWhile (· == 48) := by
  induction l with
  | nil => exact ⟨0, rfl⟩
  | cons a r ih =>
    obtain ⟨z, hz⟩ := ih
    by_cases h : a = 48
    · subst h
      refine ⟨z + 1, ?_⟩
      rw [List.dropWhile_cons_of_pos (by simp)]
      show _ = 48 :: (zerosL z ++ _)
      rw [← hz]
    · exact ⟨0, by rw [List.dropWhile_cons_of_neg (by simp [h])]; rfl⟩
theorem zerosL_rep (n : Nat) : zerosL n = List.replicate n 48 := by
  induction n with
  | zero => rfl
  | succ n ih => show 48 :: zerosL n = _; rw [ih]; rfl
theorem trimR_split (l : List UInt8) : ∃ z, l = trimR l ++ zerosL z := by
  obtain ⟨z, hz⟩ := dropWhile_split l.reverse
  refine ⟨z, ?_⟩
  have h := congrArg List.reverse hz
  rw [List.reverse_reverse, List.reverse_append, zerosL_rep, List.reverse_replicate, ← zerosL_rep] at h
  exact h
theorem trimR_len (l : List UInt8) : l = trimR l ++ zerosL (l.length - (trimR l).length) := by
  obtain ⟨z, hz⟩ := trimR_split l
  have h := congrArg List.length hz
  rw [List.length_append, zeros_len] at h
  rw [show l.length - (trimR l).length = z by omega]
  exact hz
theorem trimR_le (l : List UInt8) : (trimR l).length ≤ l.length := by
  have h := congrArg List.length (trimR_len l)
  rw [List.length_append] at h
  omega
theorem trimR_mem {l : List UInt8} {c : UInt8} (h : c ∈ trimR l) : c ∈ l := by
  rw [trimR_len l]
  exact List.mem_append_left _ h
theorem trimRight_gen (l : List UInt8) (w : World) (hs : l.length ≤ 1000000000) : Calls Tryz.prog 67 #[.string (strL l), .string ⟨#[48]⟩] w fun e w' => e = .returned (.string (strL (trimR l))) ∧ w' = w := by
  have := Tryz.strings_TrimRight_one (strL l) 48 (by decide) w (by rw [strL_size]; omega)
  rw [strL_list] at this
  exact this
theorem repeat_gen {B : Nat} (c : Int) (w : World) (hB : B ≤ w.heap.size) (h0 : 0 ≤ c) (h1 : c ≤ 1000) :
    Calls Tryz.prog 68 #[.string ⟨#[48]⟩, .int .i64 c] w fun e w' => e = .returned (.string (strL (zerosL c.toNat))) ∧ Below B w w' := by
  obtain ⟨c, rfl⟩ := Int.eq_ofNat_of_zero_le h0
  exact (Tryz.strings_Repeat ⟨#[48]⟩ c w (by omega) (by show 1 * c ≤ _; omega)).mono fun e w' h => ⟨h.1, h.2.mono hB⟩
/-- what Whole comes to of an integer kind: the digits and the power of ten of the last one. -/
def wholeV (k : Int) (neg : Bool) (l : List UInt8) (pw : Int) : Value :=
  if l.dropWhile (· == 48) = [] then .tuple #[.int .u64 0, .int .i64 0]
  else if pw + ((l.dropWhile (· == 48)).length - (trimR (l.dropWhile (· == 48))).length) < 0 ∨ 20 < pw + ((l.dropWhile (· == 48)).length - (trimR (l.dropWhile (· == 48))).length) ∨ 20 < (trimR (l.dropWhile (· == 48))).length + (pw + ((l.dropWhile (· == 48)).length - (trimR (l.dropWhile (· == 48))).length)) then .tuple #[.int .u64 0, .int .i64 31]
  else outN (fitN k neg (natOf (trimR (l.dropWhile (· == 48)) ++ zerosL (pw + ((l.dropWhile (· == 48)).length - (trimR (l.dropWhile (· == 48))).length)).toNat)))
set_option maxHeartbeats 4000000 in
theorem whole_int {B : Nat} (k : Int) {l : List UInt8} {neg : Bool} {W P : List UInt8} {hasP hasE : Bool} {ec : UInt8} {xt : List UInt8} {eneg : Bool} {X : List UInt8} (T : NumText l neg W P hasP hasE ec xt eneg X) (hw0 : W.length = 1 ∨ W[0]? ≠ some 48)
   (w : World) (hG : Rich B w) (hB : B ≤ w.heap.size) (hs : l.length ≤ 1000000000) (hk : sortN k = 2 ∨ sortN k = 3 ∨ sortN k = 4 ∨ sortN k = 5) :
    Calls Tryz.prog 30 #[.int .u8 k, .string (strL l)] w fun e w' => e = .returned (wholeV k neg (W ++ P) (valP P hasE eneg X)) ∧ Below B w w' := by
  have hnum := fun w => number_any (strL l) w (by rw [strL_size]; exact hs)
  rw [strL_list, T.number hw0] at hnum
  have HN := Lib.hid hnum
  have hlen : 0 < l.length := by
    have h1 := T.wlen
    have h2 := List.length_pos_iff.2 T.wne
    omega
  have hie : (strL l).toList.isEmpty = false := by
    rw [ByteArray.toList_eq, strL_list]
    cases l with
    | nil => exact absurd hlen (by decide)
    | cons a b => rfl
  have hsl : (strL l).size = l.length := strL_size l
  have hsort := fun w => sort_any k w
  obtain ⟨s, hse⟩ : ∃ s, s = sortN k := ⟨_, rfl⟩
  rw [← hse] at hsort hk
  have HSO := Lib.hid hsort
  obtain ⟨pq, hpq⟩ : ∃ pq, pq = valP P hasE eneg X := ⟨_, rfl⟩
  rw [← hpq]
  have HPQ := Lib.hid hpq
  have hT := Lib.hid T
  obtain ⟨t1, t2⟩ := T.trim
  have hcp := fun w => cutPrefix_gen l w
  rw [t1, t2] at hcp
  obtain ⟨bd, hbd⟩ : ∃ b, b = bodyOf W P hasP hasE ec xt := ⟨_, rfl⟩
  rw [← hbd] at hcp
  have hbl : bd.length ≤ 1000000000 := by
    have h1 := congrArg List.length T.form
    rw [List.length_append] at h1
    have h2 : bd.length = (W ++ ptText hasP P ++ (if hasE then ec :: xt else [])).length := by rw [hbd]; rfl
    omega
  have hix := T.index
  have has := T.ascii
  rw [← hbd] at hix has
  have HC := Lib.hid hcp
  have HI := Lib.hid hix
  have HA := Lib.hid has
  have HB := Lib.hid hbd
  clear t1 t2 hcp hix has hbd T hnum hsort hse hpq
  go_enter Tryz.func30, Tryz.ntmps30
  go_wp2_with fail
  refine (HSO.out _).mono ?_
  rintro e w1 ⟨rfl, hw⟩
  subst hw
  go_upto_region 7 with fail
  go_wp2_with fail
  refine (HN.out _).mono ?_
  rintro e w2 ⟨rfl, hw⟩
  subst hw
  rw [← hsl]
  go_upto_region 9 with fail
  go_wp2_with fail
  refine (HC.out _).mono ?_
  rintro e w2 ⟨rfl, hw⟩
  subst hw
  go_wp2_with fail
  refine (indexAny_gen bd _ hB (by omega) HA.out).mono ?_
  rintro e w3 ⟨rfl, hb3⟩
  have hG3 := hG.below hb3
  have hB3 := Nat.le_trans hB hb3.size
  rw [HI.out]
  obtain ⟨ix, hix⟩ : ∃ ix : Int, ix = if hasE then (((W ++ ptText hasP P).length : Nat) : Int) else -1 := ⟨_, rfl⟩
  rw [← hix]
  have HX := Lib.hid hix
  clear hix
  obtain ⟨pw, hpw⟩ : ∃ pw : Int, pw = if hasE then expCap eneg X else 0 := ⟨_, rfl⟩
  have HP := Lib.hid hpw
  clear hpw
  have hBw : Below B w3 w3 := Below.refl _ _
  go_upto_if 43 with fail
  go_cut [6, 8, 42, 43] (fun s6 s8 s42 s43 wx => Below B w3 wx ∧ s6 = .string (strL (W ++ ptText hasP P)) ∧ s8 = .int .i64 pw)
  case first =>
    cases hasE
    · as_aux_lemma =>
        have e1 : ix = -1 := HX.out
        have e2 : pw = 0 := HP.out
        have e3 : bd = W ++ ptText hasP P := by
          rw [HB.out]; unfold bodyOf
          rw [if_neg (by simp), List.append_nil]
        have HE := Lib.hid (And.intro e2 e3)
        subst e1
        clear e2 e3
        go_wp2_with fail
        go_meet
        case rel => exact ⟨hBw, by rw [HE.out.2], by rw [HE.out.1]⟩
    · as_aux_lemma =>
        have e1 : ix = (((W ++ ptText hasP P).length : Nat) : Int) := HX.out
        have e2 : pw = expCap eneg X := HP.out
        have e3 : bd = W ++ ptText hasP P ++ ec :: xt := by rw [HB.out]; rfl
        obtain ⟨n, hn⟩ : ∃ n, n = (W ++ ptText hasP P).length := ⟨_, rfl⟩
        have hnl : n + 1 ≤ (strL bd).size := by rw [strL_size, e3, hn]; simp; omega
        have hbz : (strL bd).size ≤ 1000000000 := by rw [strL_size]; exact hbl
        have e4 : bd.drop (n + 1) = xt := by
          rw [e3, hn, List.drop_append, List.drop_eq_nil_of_le (by omega)]
          simp
        have e5 : bd.take n = W ++ ptText hasP P := by rw [e3, hn, List.take_append_of_le_length (Nat.le_refl _), List.take_length]
        have e6 : ix = (n : Int) := by rw [e1, hn]
        have hxl : (strL xt).size ≤ 1000000000 := by rw [strL_size, ← e4, List.length_drop]; omega
        have HE := Lib.hid (And.intro e2 (And.intro e4 e5))
        subst e6
        clear e1 e2 e3 e4 e5 hn
        go_wp2_with fail
        rw [strL_from, HE.out.2.1]
        refine (exponent_any (strL xt) eneg X _ hG3 hB3 hxl (by rw [strL_list]; exact hT.out.xt rfl)).mono ?_
        rintro e w4 ⟨rfl, hb4⟩
        go_wp2_with fail
        go_meet
        case rel => exact ⟨hb4, by rw [strL_to, HE.out.2.2], by rw [HE.out.1]⟩
  case rest =>
  obtain ⟨hbc, rfl, rfl⟩ := hcut
  have hGc := hG3.below hbc
  have hBc := Nat.le_trans hB3 hbc.size
  have hbel := hb3.trans hbc
  clear hbc hb3 hG3 hB3 hBw
  have hcut := cut_point (W := W) (P := P) (hasP := hasP) hT.out.wdig hT.out.pnone
  have hwl : (W ++ ptText hasP P).length ≤ 1000000000 := by
    have h1 : bd.length = (W ++ ptText hasP P ++ (if hasE then ec :: xt else [])).length := by rw [HB.out]; rfl
    rw [List.length_append] at h1
    omega
  go_wp2_with fail
  refine (cut_gen (W ++ ptText hasP P) 46 _ hGc.toGood (by omega) W P hasP hcut).mono ?_
  rintro e w5 ⟨rfl, hb5⟩
  have hG5 := hGc.below hb5
  have hB5 := Nat.le_trans hBc hb5.size
  have hbel5 := hbel.trans hb5
  clear hcut hb5 hbel hGc hBc
  have hpl : P.length ≤ (ptText hasP P).length := by
    unfold ptText
    cases hasP
    · rw [hT.out.pnone rfl]; simp
    · simp
  have hsW : (strL W).size ≤ 1000000000 := by rw [strL_size]; rw [List.length_append] at hwl; omega
  have hsP : (strL P).size ≤ 1000000000 := by rw [strL_size]; rw [List.length_append] at hwl; omega
  have hsum : (strL W).size + (strL P).size ≤ 1000000000 := by rw [strL_size, strL_size]; rw [List.length_append] at hwl; omega
  have hsP2 : (strL P).size = P.length := strL_size P
  have HSP := Lib.hid hsP2
  have hpwb : -1099511627776 ≤ pw ∧ pw ≤ 1099511627776 := by
    rw [HP.out]
    unfold expCap
    split <;> omega
  have hpe : pq = pw - P.length := by rw [HPQ.out, HP.out]; rfl
  have hpqb : -1100511627776 ≤ pq ∧ pq ≤ 1099511627776 := by rw [List.length_append] at hwl; omega
  have HPE := Lib.hid hpe
  have hpt : hasP = false → ptText hasP P = [] ∧ P = [] := by
    intro h
    refine ⟨?_, hT.out.pnone h⟩
    rw [h]; rfl
  have HPT := Lib.hid hpt
  clear hpe hsP2 hpt
  go_upto_if 58 with fail
  go_cut [6, 8, 58] (fun s6 s8 s58 wx => wx = w5 ∧ s6 = .string (strL (W ++ P)) ∧ s8 = .int .i64 pq)
  case first =>
    cases hasP
    · as_aux_lemma =>
        obtain ⟨e1, e2⟩ := HPT.out rfl
        have e3 : pq = pw := by rw [HPE.out, e2]; simp
        have HE := Lib.hid (And.intro e1 (And.intro e2 e3))
        clear e1 e2 e3
        go_wp2_with fail
        go_meet
        case rel => exact ⟨rfl, by rw [HE.out.1, HE.out.2.1], by rw [HE.out.2.2]⟩
    · as_aux_lemma =>
        go_wp2_with fail
        go_meet
        case rel => exact ⟨rfl, by rw [strL_app], by rw [HPE.out, HSP.out]⟩
  case rest =>
  obtain ⟨hw, rfl, rfl⟩ := hcut
  subst hw
  obtain ⟨dz, hdz⟩ : ∃ dz, dz = (W ++ P).dropWhile (· == 48) := ⟨_, rfl⟩
  obtain ⟨sh, hsh⟩ : ∃ sh, sh = trimR dz := ⟨_, rfl⟩
  obtain ⟨pz, hpz⟩ : ∃ pz : Int, pz = pq + (dz.length - sh.length) := ⟨_, rfl⟩
  have hv : wholeV k neg (W ++ P) pq = if dz = [] then .tuple #[.int .u64 0, .int .i64 0] else if pz < 0 ∨ 20 < pz ∨ 20 < sh.length + pz then .tuple #[.int .u64 0, .int .i64 31] else outN (fitN k neg (natOf (sh ++ zerosL pz.toNat))) := by
    rw [hpz, hsh, hdz]; rfl
  have HV := Lib.hid hv
  have hdl : dz.length ≤ 1000000000 := by
    have h1 := (List.dropWhile_sublist (· == (48 : UInt8)) (l := W ++ P)).length_le
    rw [← hdz, List.length_append] at h1
    rw [List.length_append] at hwl
    omega
  have hsl2 : sh.length ≤ dz.length := by rw [hsh]; exact trimR_le dz
  have hdig : ∀ c ∈ dz, isDig c := by
    intro c hc
    rw [hdz] at hc
    have h2 := (List.dropWhile_sublist (· == (48 : UInt8))).mem hc
    rcases List.mem_append.1 h2 with h | h
    · exact hT.out.wdig c h
    · exact hT.out.pdig c h
  have htl := fun w => trimLeft_gen (W ++ P) w
  rw [← hdz] at htl
  have HTL := Lib.hid htl
  have htr := fun w => trimRight_gen dz w hdl
  rw [← hsh] at htr
  have HTR := Lib.hid htr
  have HSH := Lib.hid hsh
  have hdz2 : dz ≠ [] → ∀ c, dz[0]? = some c → c ≠ 48 := by
    intro h c hc
    have := leadDigits_first (l := W ++ P)
    have e : leadDigits (W ++ P) = dz := by
      unfold leadDigits
      rw [← hdz, if_neg h]
    rw [e] at this
    rcases this with h2 | h2
    · exfalso
      have h3 := List.head?_dropWhile_not (· == (48 : UInt8)) (W ++ P)
      rw [← hdz, h2] at h3
      simp at h3
    · exact h2 c hc
  have HD2 := Lib.hid hdz2
  clear hv htl htr hsh hdz hdz2
  go_wp2_with fail
  refine (HTL.out _).mono ?_
  rintro e w6 ⟨rfl, hw⟩
  subst hw
  by_cases hd0 : dz = []
  · have hr : wholeV k neg (W ++ P) pq = .tuple #[.int .u64 0, .int .i64 0] := by rw [HV.out, if_pos hd0]
    have e0 : strL dz = ⟨#[]⟩ := by rw [hd0]; rfl
    have HR := Lib.hid hr
    clear hr
    rw [e0]
    clear e0 hd0
    go_wp2_with fail
    go_ret2
    exact ⟨by rw [HR.out]; rfl, hbel5⟩
  · have hde : (strL dz).toList.isEmpty = false := by
      rw [ByteArray.toList_eq, strL_list]
      cases dz with
      | nil => exact absurd rfl hd0
      | cons a b => rfl
    have hv2 : wholeV k neg (W ++ P) pq = if pz < 0 ∨ 20 < pz ∨ 20 < sh.length + pz then .tuple #[.int .u64 0, .int .i64 31] else outN (fitN k neg (natOf (sh ++ zerosL pz.toNat))) := by rw [HV.out, if_neg hd0]
    have HV2 := Lib.hid hv2
    have hsz1 : (strL dz).size = dz.length := strL_size _
    have hsz2 : (strL sh).size = sh.length := strL_size _
    have hne : sh ≠ [] := by
      intro h
      have h1 := trimR_len dz
      rw [← HSH.out, h, List.nil_append] at h1
      cases hdd : dz with
      | nil => exact hd0 hdd
      | cons a b =>
        have h2 : a ∈ zerosL (dz.length - ([] : List UInt8).length) := by rw [← h1, hdd]; exact List.mem_cons_self
        exact HD2.out hd0 a (by rw [hdd]; rfl) (zeros_mem h2)
    have hpe : pz = pq + ((strL dz).size - (strL sh).size) := by rw [hsz1, hsz2]; exact hpz
    have HZ := Lib.hid (And.intro hsz1 hsz2)
    have hz1 : (strL dz).size ≤ 1000000000 := by omega
    have hz2 : (strL sh).size ≤ (strL dz).size := by omega
    clear hv2 hsz1 hsz2 hd0
    have hpzb : -1100511627776 ≤ pz ∧ pz ≤ 1100511627776 := by omega
    clear hpz
    go_wp2_with fail
    refine (HTR.out _).mono ?_
    rintro e w7 ⟨rfl, hw⟩
    subst hw
    go_upto_region 24 with fail
    rw [← hpe]
    clear hpe
    by_cases hbad : pz < 0 ∨ 20 < pz ∨ 20 < ((strL sh).size : Int) + pz
    · have hr : wholeV k neg (W ++ P) pq = .tuple #[.int .u64 0, .int .i64 31] := by
        rw [HV2.out, if_pos]
        rw [← HZ.out.2]; exact hbad
      have HR := Lib.hid hr
      clear hr
      rcases hbad with h | h | h
      · go_wp2_with fail
        go_ret2
        exact ⟨by rw [HR.out]; rfl, hbel5⟩
      · have h0 : ¬ pz < 0 := by omega
        go_wp2_with fail
        go_ret2
        exact ⟨by rw [HR.out]; rfl, hbel5⟩
      · by_cases h0 : pz < 0
        · go_wp2_with fail
          go_ret2
          exact ⟨by rw [HR.out]; rfl, hbel5⟩
        · by_cases h1 : 20 < pz
          · go_wp2_with fail
            go_ret2
            exact ⟨by rw [HR.out]; rfl, hbel5⟩
          · go_wp2_with fail
            go_ret2
            exact ⟨by rw [HR.out]; rfl, hbel5⟩
    · have hr : wholeV k neg (W ++ P) pq = outN (fitN k neg (natOf (sh ++ zerosL pz.toNat))) := by
        rw [HV2.out, if_neg]
        rw [← HZ.out.2]; exact hbad
      have HR := Lib.hid hr
      have h0 : ¬ pz < 0 := fun h => hbad (.inl h)
      have h1 : ¬ 20 < pz := fun h => hbad (.inr (.inl h))
      have h2 : ¬ 20 < ((strL sh).size : Int) + pz := fun h => hbad (.inr (.inr h))
      clear hr hbad
      go_wp2_with fail
      refine (repeat_gen pz _ hB5 (by omega) (by omega)).mono ?_
      rintro e w8 ⟨rfl, hb8⟩
      have hG8 := hG5.below hb8
      have hB8 := Nat.le_trans hB5 hb8.size
      have hbel8 := hbel5.trans hb8
      clear hb8
      have hzs : (strL (zerosL pz.toNat)).size ≤ 20 := by rw [strL_size, zeros_len]; omega
      go_wp2_with fail
      rw [strL_app]
      have hfd : ∀ c ∈ sh ++ zerosL pz.toNat, isDig c := by
        intro c hc
        rcases List.mem_append.1 hc with h | h
        · rw [HSH.out] at h
          exact hdig c (trimR_mem h)
        · rw [zeros_mem h]; exact isDig48
      refine (fit_any k neg (sh ++ zerosL pz.toNat) _ hG8 hB8 hfd (by simp [hne]) (by rw [List.length_append, zeros_len]; have := HZ.out.2; omega)).mono ?_
      rintro e w9 ⟨rfl, hb9⟩
      have hbel9 := hbel8.trans hb9
      clear hfd hb9
      obtain ⟨y, z, hyz⟩ : ∃ y z, outN (fitN k neg (natOf (sh ++ zerosL pz.toNat))) = .tuple #[.int .u64 y, .int .i64 z] := by
        unfold outN; split <;> exact ⟨_, _, rfl⟩
      rw [hyz] at HR ⊢
      clear hyz
      go_wp2_with fail
      go_ret2
      exact ⟨by rw [HR.out]; rfl, hbel9⟩
end Go.Proofs.YtdfodfflkmcgpaaGreatDoor
