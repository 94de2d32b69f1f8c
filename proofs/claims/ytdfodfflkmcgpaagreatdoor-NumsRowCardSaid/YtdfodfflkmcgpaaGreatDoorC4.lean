/- "1.6777217e7" taken apart. -/
import Derived.Test.YtdfodfflkmcgpaaGreatDoorC3
namespace Go.Proofs.YtdfodfflkmcgpaaGreatDoor
open Go.RowKit Go.Sort
set_option linter.unusedVariables false
set_option maxRecDepth 100000
theorem results_tmp7 {fn : Func} {t1 t2 t3 t4 t5 t6 t7 : Tmp} (h : fn.results = #[.tmp t1, .tmp t2, .tmp t3, .tmp t4, .tmp t5, .tmp t6, .tmp t7]) (tmps : Array Value) (P : Program) (w : World) :
    (results fn tmps).run P w = .ok (.tuple #[tmps.getD t1 undef, tmps.getD t2 undef, tmps.getD t3 undef, tmps.getD t4 undef, tmps.getD t5 undef, tmps.getD t6 undef, tmps.getD t7 undef]) w := by
  simp [results, h]
theorem special_d (w : World) : Calls Tryz.prog 205 #[.string ⟨#[49, 46, 54, 55, 55, 55, 50, 49, 55, 101, 55]⟩] w fun e w' => e = .returned (.tuple #[.float .f64 0, .int .i64 0, .bool false]) ∧ w' = w := by
  go_enter Tryz.func205, Tryz.ntmps205
  go_wp2_with fail
  go_ret3
  exact ⟨rfl, rfl⟩
def rdStates : List (Int × Int × Bool × Bool × Int × Int × Int) :=
  [(0,0,false,false,0,0,0), (1,1,false,true,1,1,0), (1,2,true,true,1,1,1), (16,3,true,true,2,2,1), (167,4,true,true,3,3,1), (1677,5,true,true,4,4,1), (16777,6,true,true,5,5,1), (167772,7,true,true,6,6,1), (1677721,8,true,true,7,7,1), (16777217,9,true,true,8,8,1)]
theorem lower_e (w : World) : Calls Tryz.prog 159 #[.int .u8 101] w fun e w' => e = .returned (.int .u8 101) ∧ w' = w := by
  have e1 : bits .or .u8 101 32 = 101 := by decide +kernel
  go_enter Tryz.func159, Tryz.ntmps159
  go_wp2_with fail
  go_ret
  exact ⟨congrArg (fun n => Ending.returned (.int .u8 n)) (by decide +kernel), rfl⟩
set_option maxHeartbeats 4000000 in
theorem readFloat_d (w : World) : Calls Tryz.prog 206 #[.string ⟨#[49, 46, 54, 55, 55, 55, 50, 49, 55, 101, 55]⟩] w fun e w' => e = .returned (.tuple #[.int .u64 16777217, .int .i64 0, .bool false, .bool false, .bool false, .int .i64 11, .bool true]) ∧ w' = w := by
  go_enter Tryz.func206, Tryz.ntmps206
  go_wp2_with fail
  go_step3
  go_wp2_with fail
  go_step3
  go_wp2_with fail
  go_loop [2, 5, 7, 9, 13, 14, 15, 16, 17] (fun s2 s5 s7 s9 s13 s14 s15 s16 s17 => ∃ t ∈ rdStates, s2 = .int .u64 t.1 ∧ s5 = .bool false ∧ s7 = .int .i64 t.2.1 ∧ s9 = .bool false ∧ s13 = .bool t.2.2.1 ∧ s14 = .bool t.2.2.2.1 ∧ s15 = .int .i64 t.2.2.2.2.1 ∧ s16 = .int .i64 t.2.2.2.2.2.1 ∧ s17 = .int .i64 t.2.2.2.2.2.2) (fun s2 s5 s7 s9 s13 s14 s15 s16 s17 => 20 - (intOf s7).toNat)
  case atStart => exact ⟨(0,0,false,false,0,0,0), by decide, rfl, rfl, rfl, rfl, rfl, rfl, rfl, rfl, rfl⟩
  case round =>
    obtain ⟨t, ht, rfl, rfl, rfl, rfl, rfl, rfl, rfl, rfl, rfl⟩ := hrel
    simp only [rdStates, List.mem_cons, List.not_mem_nil, or_false] at ht
    rcases ht with rfl | rfl | rfl | rfl | rfl | rfl | rfl | rfl | rfl | rfl
    · go_wp2_with fail
      go_round
      case rel => exact ⟨(1,1,false,true,1,1,0), by decide, rfl, rfl, rfl, rfl, rfl, rfl, rfl, rfl, rfl⟩
      case measure => decide
    · go_wp2_with fail
      go_round
      case rel => exact ⟨(1,2,true,true,1,1,1), by decide, rfl, rfl, rfl, rfl, rfl, rfl, rfl, rfl, rfl⟩
      case measure => decide
    · go_wp2_with fail
      go_round
      case rel => exact ⟨(16,3,true,true,2,2,1), by decide, rfl, rfl, rfl, rfl, rfl, rfl, rfl, rfl, rfl⟩
      case measure => decide
    · go_wp2_with fail
      go_round
      case rel => exact ⟨(167,4,true,true,3,3,1), by decide, rfl, rfl, rfl, rfl, rfl, rfl, rfl, rfl, rfl⟩
      case measure => decide
    · go_wp2_with fail
      go_round
      case rel => exact ⟨(1677,5,true,true,4,4,1), by decide, rfl, rfl, rfl, rfl, rfl, rfl, rfl, rfl, rfl⟩
      case measure => decide
    · go_wp2_with fail
      go_round
      case rel => exact ⟨(16777,6,true,true,5,5,1), by decide, rfl, rfl, rfl, rfl, rfl, rfl, rfl, rfl, rfl⟩
      case measure => decide
    · go_wp2_with fail
      go_round
      case rel => exact ⟨(167772,7,true,true,6,6,1), by decide, rfl, rfl, rfl, rfl, rfl, rfl, rfl, rfl, rfl⟩
      case measure => decide
    · go_wp2_with fail
      go_round
      case rel => exact ⟨(1677721,8,true,true,7,7,1), by decide, rfl, rfl, rfl, rfl, rfl, rfl, rfl, rfl, rfl⟩
      case measure => decide
    · go_wp2_with fail
      go_round
      case rel => exact ⟨(16777217,9,true,true,8,8,1), by decide, rfl, rfl, rfl, rfl, rfl, rfl, rfl, rfl, rfl⟩
      case measure => decide
    · go_wp2_with fail
      refine (lower_e _).mono ?_
      rintro e w2 ⟨rfl, hw⟩
      subst hw
      go_wp2_with fail
      go_loop [7, 9, 20] (fun s7 s9 s20 => s9 = .bool false ∧ ((s7 = .int .i64 10 ∧ s20 = .int .i64 0) ∨ (s7 = .int .i64 11 ∧ s20 = .int .i64 7))) (fun s7 s9 s20 => 20 - (intOf s7).toNat)
      case atStart => exact ⟨rfl, Or.inl ⟨rfl, rfl⟩⟩
      case round =>
        obtain ⟨rfl, ⟨rfl, rfl⟩ | ⟨rfl, rfl⟩⟩ := hrel
        · go_wp2_with fail
          go_round
          case rel => exact ⟨rfl, Or.inr ⟨rfl, rfl⟩⟩
          case measure => decide
        · go_wp2_with fail
          try rw [Exit.noGoto_ret]
          ((try simp only [Exit.inBlock, Exit.then]); refine bodyPost_ret (results_tmp7 rfl _ _ _) rfl ?_)
          exact ⟨rfl, rfl⟩
end Go.Proofs.YtdfodfflkmcgpaaGreatDoor
