/- "1.6777217e7" taken apart. -/
import Derived.Test.YtdfodfflkmcgpaaGreatDoorZC1
namespace Go.Proofs.YtdfodfflkmcgpaaGreatDoor
open Go.RowKit Go.Sort
set_option linter.unusedVariables false
set_option maxRecDepth 100000
theorem results_tmp7 {fn : Func} {t1 t2 t3 t4 t5 t6 t7 : Tmp} (h : fn.results = #[.tmp t1, .tmp t2, .tmp t3, .tmp t4, .tmp t5, .tmp t6, .tmp t7]) (tmps : Array Value) (P : Program) (w : World) :
    (results fn tmps).run P w = .ok (.tuple #[tmps.getD t1 undef, tmps.getD t2 undef, tmps.getD t3 undef, tmps.getD t4 undef, tmps.getD t5 undef, tmps.getD t6 undef, tmps.getD t7 undef]) w := by
  simp [results, h]
theorem special_d (w : World) : Calls Tryz.prog 205 #[.string ⟨#[49, 46, 54, 55, 55, 55, 50, 49, 55, 101, 55]⟩] w fun e w' => e = .returned (.tuple #[.float .f64 0, .int .i64 0, .bool false]) ∧ w' = w := by
  go_enter Tryz.func205, Tryz.ntmps205
  go_wp2_with fail
  go_ret3
  exact ⟨rfl, rfl⟩
def rdStates : List (Int × Int × Bool × Bool × Int × Int × Int) :=
  [(0,0,false,false,0,0,0), (1,1,false,true,1,1,0), (1,2,true,true,1,1,1), (16,3,true,true,2,2,1), (167,4,true,true,3,3,1), (1677,5,true,true,4,4,1), (16777,6,true,true,5,5,1), (167772,7,true,true,6,6,1), (1677721,8,true,true,7,7,1), (16777217,9,true,true,8,8,1)]
theorem lower_e (w : World) : Calls Tryz.prog 159 #[.int .u8 101] w fun e w' => e = .returned (.int .u8 101) ∧ w' = w := by
  have e1 : bits .or .u8 101 32 = 101 := by decide +kernel
  go_enter Tryz.func159, Tryz.ntmps159
  go_wp2_with fail
  go_ret
  exact ⟨congrArg (fun n => Ending.returned (.int .u8 n)) (by decide +kernel), rfl⟩
set_option maxHeartbeats 4000000 in
theorem readFloat_d (w : World) : Calls Tryz.prog 206 #[.string ⟨#[49, 46, 54, 55, 55, 55, 50, 49, 55, 101, 55]⟩] w fun e w' => e = .returned (.tuple #[.int .u64 16777217, .int .i64 0, .bool false, .bool false, .bool false, .int .i64 11, .bool true]) ∧ w' = w := by
  go_enter Tryz.func206, Tryz.ntmps206
  go_wp2_with fail
  go_step3
  go_wp2_with fail
  go_step3
  go_wp2_with fail
  go_loop [2, 5, 7, 9, 13, 14, 15, 16, 17] (fun s2 s5 s7 s9 s13 s14 s15 s16 s17 => ∃ t ∈ rdStates, s2 = .int .u64 t.1 ∧ s5 = .bool false ∧ s7 = .int .i64 t.2.1 ∧ s9 = .bool false ∧ s13 = .bool t.2.2.1 ∧ s14 = .bool t.2.2.2.1 ∧ s15 = .int .i64 t.2.2.2.2.1 ∧ s16 = .int .i64 t.2.2.2.2.2.1 ∧ s17 = .int .i64 t.2.2.2.2.2.2) (fun s2 s5 s7 s9 s13 s14 s15 s16 s17 => 20 - (intOf s7).toNat)
  case atStart => exact ⟨(0,0,false,false,0,0,0), by decide, rfl, rfl, rfl, rfl, rfl, rfl, rfl, rfl, rfl⟩
  case round =>
    obtain ⟨t, ht, rfl, rfl, rfl, rfl, rfl, rfl, rfl, rfl, rfl⟩ := hrel
    simp only [rdStates, List.mem_cons, List.not_mem_nil, or_false] at ht
    rcases ht with rfl | rfl | rfl | rfl | rfl | rfl | rfl | rfl | rfl | rfl
    · go_wp2_with fail
      go_round
      case rel => exact ⟨(1,1,false,true,1,1,0), by decide, rfl, rfl, rfl, rfl, rfl, rfl, rfl, rfl, rfl⟩
      case measure => decide
    · go_wp2_with fail
      go_round
      case rel => exact ⟨(1,2,true,true,1,1,1), by decide, rfl, rfl, rfl, rfl, rfl, rfl, rfl, rfl, rfl⟩
      case measure => decide
    · go_wp2_with fail
      go_round
      case rel => exact ⟨(16,3,true,true,2,2,1), by decide, rfl, rfl, rfl, rfl, rfl, rfl, rfl, rfl, rfl⟩
      case measure => decide
    · go_wp2_with fail
      go_round
      case rel => exact ⟨(167,4,true,true,3,3,1), by decide, rfl, rfl, rfl, rfl, rfl, rfl, rfl, rfl, rfl⟩
      case measure => decide
    · go_wp2_with fail
      go_round
      case rel => exact ⟨(1677,5,true,true,4,4,1), by decide, rfl, rfl, rfl, rfl, rfl, rfl, rfl, rfl, rfl⟩
      case measure => decide
    · go_wp2_with fail
      go_round
      case rel => exact ⟨(16777,6,true,true,5,5,1), by decide, rfl, rfl, rfl, rfl, rfl, rfl, rfl, rfl, rfl⟩
      case measure => decide
    · go_wp2_with fail
      go_round
      case rel => exact ⟨(167772,7,true,true,6,6,1), by decide, rfl, rfl, rfl, rfl, rfl, rfl, rfl, rfl, rfl⟩
      case measure => decide
    · go_wp2_with fail
      go_round
      case rel => exact ⟨(1677721,8,true,true,7,7,1), by decide, rfl, rfl, rfl, rfl, rfl, rfl, rfl, rfl, rfl⟩
      case measure => decide
    · go_wp2_with fail
      go_round
      case rel => exact ⟨(16777217,9,true,true,8,8,1), by decide, rfl, rfl, rfl, rfl, rfl, rfl, rfl, rfl, rfl⟩
      case measure => decide
    · go_wp2_with fail
      refine (lower_e _).mono ?_
      rintro e w2 ⟨rfl, hw⟩
      subst hw
      go_wp2_with fail
      go_loop [7, 9, 20] (fun s7 s9 s20 => s9 = .bool false ∧ ((s7 = .int .i64 10 ∧ s20 = .int .i64 0) ∨ (s7 = .int .i64 11 ∧ s20 = .int .i64 7))) (fun s7 s9 s20 => 20 - (intOf s7).toNat)
      case atStart => exact ⟨rfl, Or.inl ⟨rfl, rfl⟩⟩
      case round =>
        obtain ⟨rfl, ⟨rfl, rfl⟩ | ⟨rfl, rfl⟩⟩ := hrel
        · go_wp2_with fail
          go_round
          case rel => exact ⟨rfl, Or.inr ⟨rfl, rfl⟩⟩
          case measure => decide
        · go_wp2_with fail
          try rw [Exit.noGoto_ret]
          ((try simp only [Exit.inBlock, Exit.then]); refine bodyPost_ret (results_tmp7 rfl _ _ _) rfl ?_)
          exact ⟨rfl, rfl⟩
end Go.Proofs.YtdfodfflkmcgpaaGreatDoor
/- 16777217 as a binary32. -/
namespace Go.Proofs.YtdfodfflkmcgpaaGreatDoor
open Go.RowKit Go.Sort
set_option linter.unusedVariables false
set_option maxRecDepth 100000
theorem exact_d (w : World) : Calls Tryz.prog 210 #[.int .u64 16777217, .int .i64 0, .bool false] w fun e w' => e = .returned (.tuple #[.float .f32 0, .bool false]) ∧ w' = w := by
  go_enter Tryz.func210, Tryz.ntmps210
  go_wp2_with fail
  go_ret2
  exact ⟨rfl, rfl⟩
theorem run_209 (b : Nat) (w : World) : (callFunc 209 #[.int .u32 b]).run Tryz.prog w = .ok (.value (.float .f32 b)) w := by kernel_rfl
theorem pack_d (w : World) : Calls Tryz.prog 223 #[.int .u32 8388608, .int .i64 1] w fun e w' => e = .returned (.tuple #[.float .f32 1266679808, .nilIface]) ∧ w' = w := by
  have h209 : ∀ w, (callFunc 209 #[.int .u32 1266679808]).run Tryz.prog w = .ok (.value (.float .f32 1266679808)) w := run_209 1266679808
  have e1 : bits .and .u32 8388608 8388608 = 8388608 := by decide +kernel
  have e2 : bits .andNot .u32 8388608 8388608 = 0 := by decide +kernel
  have e3 : bits .or .u32 0 1266679808 = 1266679808 := by decide +kernel
  go_enter Tryz.func223, Tryz.ntmps223
  go_wp2_with fail
  go_ret2
  exact ⟨rfl, rfl⟩
theorem unmin_d (w : World) : Calls Tryz.prog 197 #[.int .u64 16777216] w fun e w' => e = .returned (.int .u64 67108862) ∧ w' = w := by
  go_enter Tryz.func197, Tryz.ntmps197
  go_wp2_with fail
  go_ret
  exact ⟨congrArg (fun n => Ending.returned (.int .u64 n)) (by decide +kernel), rfl⟩
theorem usc_d : (usc 9223372586610589696 0 37 : Int) = 33554434 := by decide +kernel
theorem round_d (w : World) : Calls Tryz.prog 196 #[.int .u64 33554434] w fun e w' => e = .returned (.int .u64 8388608) ∧ w' = w := round_any 33554434 w (by decide) (by decide)
theorem len64_d (w : World) : Calls Tryz.prog 140 #[.int .u64 16777217] w fun e w' => e = .returned (.int .i64 25) ∧ w' = w := Tryz.bits_Len64 16777217 w (by decide) (by decide)
theorem parse_d {B : Nat} (w : World) (hG : Good B w) (hB : B ≤ w.heap.size) : Calls Tryz.prog 211 #[.int .u64 16777217, .int .i64 0, .int .u32 0] w fun e w' => e = .returned (.tuple #[.float .f32 1266679808, .nilIface]) ∧ Below B w w' := by
  go_enter Tryz.func211, Tryz.ntmps211
  go_wp2_with fail
  refine (len64_d _).mono ?_
  rintro e w2 ⟨rfl, hw⟩
  subst hw
  go_wp2_with fail
  refine (log2Pow10_to 0 0 _ (by decide) (by decide) (by decide)).mono ?_
  rintro e w2 ⟨rfl, hw⟩
  subst hw
  have hmin : min (149 : Int) (-1) = -1 := by decide
  go_wp2_with fail
  refine (prescale_fresh (-40) 0 0 37 _ _ _ _ hG hB (by decide) (by decide) (by decide) (by decide) (by decide) (by decide) (by decide)).mono ?_
  rintro e w2 ⟨rfl, hw⟩
  rw [hw]
  go_wp2_with fail
  refine (usc_calls 9223372586610589696 0 37 33554434 _ _ (by decide) (by decide) (by decide) (by decide) (by decide) (by decide) usc_d (by simp) (by simp) (by simp)).mono ?_
  rintro e w3 ⟨rfl, n, hw⟩
  rw [hw]
  go_wp2_with fail
  refine (unmin_d _).mono ?_
  rintro e w4 ⟨rfl, hw⟩
  rw [hw]
  go_wp2_with fail
  refine (bool2_i false _).mono ?_
  rintro e w4 ⟨rfl, hw⟩
  rw [hw]
  have e1 : bits .and .u64 33554434 1 = 0 := by decide +kernel
  have e2 : bits .or .u64 33554434 0 = 33554434 := by decide +kernel
  have e3 : bits .or .u32 0 8388608 = 8388608 := by decide +kernel
  go_wp2_with fail
  refine (round_d _).mono ?_
  rintro e w4 ⟨rfl, hw⟩
  rw [hw]
  go_wp2_with fail
  refine (pack_d _).mono ?_
  rintro e w4 ⟨rfl, hw⟩
  rw [hw]
  go_wp2_with fail
  go_ret2
  exact ⟨rfl, below_drewN ((Below.refl _ _).alloc hB _) _⟩
end Go.Proofs.YtdfodfflkmcgpaaGreatDoor
/- "16777217" with one digit ahead of the point. -/
namespace Go.Proofs.YtdfodfflkmcgpaaGreatDoor
open Go.RowKit Go.Sort
set_option linter.unusedVariables false
set_option maxRecDepth 100000
theorem itoa_7 {B : Nat} (w : World) (hG : Good B w) (hB : B ≤ w.heap.size) :
    Calls Tryz.prog 115 #[.int .i64 7] w fun e w' => e = .returned (.string ⟨#[55]⟩) ∧ Below B w w' := by
  refine (itoa_to 7 w hG hB (by decide) (by decide)).mono ?_
  rintro e w' ⟨r, rfl, hr, -, hb⟩
  have : r = ⟨#[55]⟩ := ByteArray.ext (Array.ext' (hr.out.trans (by decide +kernel)))
  exact ⟨by rw [this], hb⟩
set_option maxHeartbeats 4000000 in
theorem leading_d {B : Nat} (w : World) (hG : Good B w) (hB : B ≤ w.heap.size) :
    Calls Tryz.prog 87 #[.string ⟨#[49, 54, 55, 55, 55, 50, 49, 55]⟩] w fun e w' => e = .returned (.string ⟨#[49, 46, 54, 55, 55, 55, 50, 49, 55, 101, 55]⟩) ∧ Below B w w' := by
  go_enter Tryz.func87, Tryz.ntmps87
  go_wp2_with fail
  refine (cutPrefix_lit _ _ ⟨#[49, 54, 55, 55, 55, 50, 49, 55]⟩ false _ (by decide +kernel) (by decide +kernel)).mono ?_
  rintro e w2 ⟨rfl, hw⟩
  subst hw
  go_wp2_with fail
  refine (indexAny_lit _ (-1) _ hB (by decide) (by decide +kernel) (by decide +kernel)).mono ?_
  rintro e w1 ⟨rfl, hb1⟩
  have hG1 := hG.below hb1
  have hB1 := Nat.le_trans hB hb1.size
  go_wp2_with fail
  refine (cut_lit _ ⟨#[49, 54, 55, 55, 55, 50, 49, 55]⟩ ⟨#[]⟩ false _ hG1 (by decide) (by decide +kernel)).mono ?_
  rintro e w3 ⟨rfl, hb3⟩
  have hG3 := hG1.below hb3
  have hB3 := Nat.le_trans hB1 hb3.size
  have hb := hb1.trans hb3
  clear hb1 hb3 hG1 hB1
  go_wp2_with fail
  refine (trimLeft_lit _ ⟨#[49, 54, 55, 55, 55, 50, 49, 55]⟩ _ (by decide +kernel)).mono ?_
  rintro e w4 ⟨rfl, hw⟩
  rw [hw]
  clear hw w4
  go_wp2_with fail
  go_region_with (first | (go_at_call 115; refine (itoa_7 _ (by first | exact hG3 | exact hG3.drewN _) (by first | exact hB3 | (simp; exact hB3))).mono ?_; rintro e' w' ⟨rfl, hb4⟩))
  go_wp2_with fail
  go_ret
  exact ⟨by kernel_rfl, hb.trans ((below_drewN (Below.refl _ _) 1).trans hb4)⟩
end Go.Proofs.YtdfodfflkmcgpaaGreatDoor
/- works() : what the chapter's examples fix. -/
namespace Go.Proofs.YtdfodfflkmcgpaaGreatDoor
open Go.RowKit Go.Sort
set_option linter.unusedVariables false
set_option maxRecDepth 100000
theorem atof32_d {B : Nat} (w : World) (hG : Good B w) (hB : B ≤ w.heap.size) :
    Calls Tryz.prog 183 #[.string ⟨#[49, 46, 54, 55, 55, 55, 50, 49, 55, 101, 55]⟩] w fun e w' => e = .returned (.tuple #[.float .f32 1266679808, .int .i64 11, .nilIface]) ∧ Below B w w' := by
  have hopt := hG.opt
  go_enter Tryz.func183, Tryz.ntmps183
  go_wp2_with fail
  refine (special_d _).mono ?_
  rintro e w2 ⟨rfl, hw⟩
  subst hw
  go_wp2_with fail
  refine (readFloat_d _).mono ?_
  rintro e w2 ⟨rfl, hw⟩
  subst hw
  go_wp2_with fail
  refine (bool2_u32 false _).mono ?_
  rintro e w2 ⟨rfl, hw⟩
  subst hw
  go_wp2_with fail
  refine (exact_d _).mono ?_
  rintro e w2 ⟨rfl, hw⟩
  subst hw
  go_wp2_with fail
  refine (parse_d _ hG hB).mono ?_
  rintro e w3 ⟨rfl, hb⟩
  go_wp2_with fail
  go_ret3
  exact ⟨rfl, hb⟩
theorem conv_d (w : World) : (convert 60 59 (.float .f32 1266679808)).run Tryz.prog w = .ok (.float .f64 4715268809856909312) w := by kernel_rfl
theorem conv_d' (w : World) : (convert 59 60 (.float .f64 4715268809856909312)).run Tryz.prog w = .ok (.float .f32 1266679808) w := by kernel_rfl
theorem prefix_d {B : Nat} (w : World) (hG : Good B w) (hB : B ≤ w.heap.size) :
    Calls Tryz.prog 158 #[.string ⟨#[49, 46, 54, 55, 55, 55, 50, 49, 55, 101, 55]⟩, .int .i64 32] w fun e w' => e = .returned (.tuple #[.float .f64 4715268809856909312, .int .i64 11, .nilIface]) ∧ Below B w w' := by
  have hcv := conv_d
  go_enter Tryz.func158, Tryz.ntmps158
  go_wp2_with fail
  refine (atof32_d _ hG hB).mono ?_
  rintro e w3 ⟨rfl, hb⟩
  go_wp2_with fail
  go_ret3
  exact ⟨rfl, hb⟩
theorem pf_d {B : Nat} (w : World) (hG : Good B w) (hB : B ≤ w.heap.size) :
    Calls Tryz.prog 126 #[.string ⟨#[49, 46, 54, 55, 55, 55, 50, 49, 55, 101, 55]⟩, .int .i64 32] w fun e w' => e = .returned (.tuple #[.float .f64 4715268809856909312, .nilIface]) ∧ Below B w w' := by
  go_enter Tryz.func126, Tryz.ntmps126
  go_wp2_with fail
  refine (prefix_d _ hG hB).mono ?_
  rintro e w3 ⟨rfl, hb⟩
  go_wp2_with fail
  go_ret2
  exact ⟨rfl, hb⟩
theorem pf2_d {B : Nat} (w : World) (hG : Good B w) (hB : B ≤ w.heap.size) :
    Calls Tryz.prog 86 #[.string ⟨#[49, 46, 54, 55, 55, 55, 50, 49, 55, 101, 55]⟩, .int .i64 32] w fun e w' => e = .returned (.tuple #[.float .f64 4715268809856909312, .nilIface]) ∧ Below B w w' := by
  go_enter Tryz.func86, Tryz.ntmps86
  go_wp2_with fail
  refine (pf_d _ hG hB).mono ?_
  rintro e w3 ⟨rfl, hb⟩
  go_wp2_with fail
  go_ret2
  exact ⟨rfl, hb⟩
theorem rf_d {B : Nat} (w : World) (hG : Good B w) (hB : B ≤ w.heap.size) :
    Calls Tryz.prog 59 #[.string ⟨#[49, 54, 55, 55, 55, 50, 49, 55]⟩, .int .i64 32] w fun e w' => e = .returned (.tuple #[.int .u64 1266679808, .int .i64 0]) ∧ Below B w w' := by
  have hcv := conv_d'
  have h56 : ∀ w, (callFunc 56 #[.float .f32 1266679808]).run Tryz.prog w = .ok (.value (.int .u32 1266679808)) w := fun w => by kernel_rfl
  go_enter Tryz.func59, Tryz.ntmps59
  go_wp2_with fail
  refine (num_d _).mono ?_
  rintro e w2 ⟨rfl, hw⟩
  subst hw
  go_wp2_with fail
  refine (leading_d _ hG hB).mono ?_
  rintro e w1 ⟨rfl, hb1⟩
  go_wp2_with fail
  refine (pf2_d _ (hG.below hb1) (Nat.le_trans hB hb1.size)).mono ?_
  rintro e w3 ⟨rfl, hb⟩
  go_wp2_with fail
  go_ret2
  exact ⟨rfl, hb1.trans hb⟩
theorem read_d {B : Nat} (w : World) (hG : Good B w) (hB : B ≤ w.heap.size) :
    Calls Tryz.prog 28 #[.int .u8 2, .string ⟨#[49, 54, 55, 55, 55, 50, 49, 55]⟩] w fun e w' => e = .returned (.tuple #[.int .u64 1266679808, .int .i64 0]) ∧ Below B w w' := by
  go_enter Tryz.func28, Tryz.ntmps28
  go_wp2_with fail
  refine (sort_2 _).mono ?_
  rintro e w2 ⟨rfl, hw⟩
  subst hw
  go_wp2_with fail
  refine (rf_d _ hG hB).mono ?_
  rintro e w3 ⟨rfl, hb⟩
  go_wp2_with fail
  go_ret2
  exact ⟨rfl, hb⟩
set_option maxHeartbeats 4000000 in
theorem works_any {B : Nat} (w : World) (hG : Good B w) (hB : B ≤ w.heap.size) :
    Calls Tryz.prog 15 #[] w fun e w' => e = .returned (.bool true) ∧ Below B w w' := by
  go_enter Tryz.func15, Tryz.ntmps15
  go_wp2_with fail
  refine (show_a _ hG hB).mono ?_
  rintro e w1 ⟨rfl, hb1⟩
  have hG1 := hG.below hb1
  have hB1 := Nat.le_trans hB hb1.size
  have hL1 := hb1
  go_wp2_with fail
  refine (show_b _ hG1 hB1).mono ?_
  rintro e w2 ⟨rfl, hb2⟩
  have hG2 := hG1.below hb2
  have hB2 := Nat.le_trans hB1 hb2.size
  have hL2 := hL1.trans hb2
  go_wp2_with fail
  refine (show_c _ hG2 hB2).mono ?_
  rintro e w3 ⟨rfl, hb3⟩
  have hG3 := hG2.below hb3
  have hB3 := Nat.le_trans hB2 hb3.size
  have hL3 := hL2.trans hb3
  go_wp2_with fail
  refine (read_d _ hG3 hB3).mono ?_
  rintro e w4 ⟨rfl, hb4⟩
  have hG4 := hG3.below hb4
  have hB4 := Nat.le_trans hB3 hb4.size
  have hL4 := hL3.trans hb4
  go_wp2_with fail
  refine (whole_f _ hG4 hB4).mono ?_
  rintro e w5 ⟨rfl, hb5⟩
  have hG5 := hG4.below hb5
  have hB5 := Nat.le_trans hB4 hb5.size
  have hL5 := hL4.trans hb5
  go_wp2_with fail
  refine (read_h _ hB5).mono ?_
  rintro e w6 ⟨rfl, hb6⟩
  have hG6 := hG5.below hb6
  have hB6 := Nat.le_trans hB5 hb6.size
  have hL6 := hL5.trans hb6
  go_wp2_with fail
  refine (read_i _).mono ?_
  rintro e wx ⟨rfl, hw⟩
  rw [hw]
  clear hw wx
  go_wp2_with fail
  refine (num_j _).mono ?_
  rintro e wx ⟨rfl, hw⟩
  rw [hw]
  clear hw wx
  go_wp2_with fail
  refine (narrow_k _).mono ?_
  rintro e wx ⟨rfl, hw⟩
  rw [hw]
  clear hw wx
  go_wp2_with fail
  refine (widen_l _).mono ?_
  rintro e wx ⟨rfl, hw⟩
  rw [hw]
  clear hw wx
  go_wp2_with fail
  refine (cut_m _).mono ?_
  rintro e wx ⟨rfl, hw⟩
  rw [hw]
  clear hw wx
  go_wp2_with fail
  refine (fits_8 _).mono ?_
  rintro e wx ⟨rfl, hw⟩
  rw [hw]
  clear hw wx
  go_wp2_with fail
  refine (compare_o _).mono ?_
  rintro e wx ⟨rfl, hw⟩
  rw [hw]
  clear hw wx
  go_wp2_with fail
  go_ret
  exact ⟨by first | rfl | kernel_rfl, hL6⟩
end Go.Proofs.YtdfodfflkmcgpaaGreatDoor
