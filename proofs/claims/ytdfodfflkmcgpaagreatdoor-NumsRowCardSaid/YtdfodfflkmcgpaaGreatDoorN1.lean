/- sortOf and Fits, at every kind. -/
import Derived.Test.YtdfodfflkmcgpaaGreatDoorA2
namespace Go.Proofs.YtdfodfflkmcgpaaGreatDoor
open Go.RowKit Go.Sort
set_option linter.unusedVariables false
set_option maxRecDepth 100000
/-- what a kind's numbers are. -/
def sortN (k : Int) : Int :=
  if k = 1 then 7 else
  if k = 2 then 6 else
  if k = 3 then 3 else
  if k = 4 then 5 else
  if k = 5 then 2 else
  if k = 6 then 5 else
  if k = 7 then 4 else
  if k = 8 then 1 else
  if k = 13 then 4 else
  if k = 14 then 2 else
  if k = 15 then 2 else
  if k = 16 then 3 else
  if k = 17 then 2 else
  if k = 18 then 3 else
  0
set_option maxHeartbeats 4000000 in
theorem sort_any (k : Int) (w : World) : Calls Tryz.prog 36 #[.int .u8 k] w fun e w' => e = .returned (.int .i64 (sortN k)) ∧ w' = w := by
  by_cases h1 : k = 1
  · subst h1
    go_enter Tryz.func36, Tryz.ntmps36
    go_wp2_with fail
    go_ret
    exact ⟨rfl, rfl⟩
  by_cases h2 : k = 2
  · subst h2
    go_enter Tryz.func36, Tryz.ntmps36
    go_wp2_with fail
    go_ret
    exact ⟨rfl, rfl⟩
  by_cases h3 : k = 3
  · subst h3
    go_enter Tryz.func36, Tryz.ntmps36
    go_wp2_with fail
    go_ret
    exact ⟨rfl, rfl⟩
  by_cases h4 : k = 4
  · subst h4
    go_enter Tryz.func36, Tryz.ntmps36
    go_wp2_with fail
    go_ret
    exact ⟨rfl, rfl⟩
  by_cases h5 : k = 5
  · subst h5
    go_enter Tryz.func36, Tryz.ntmps36
    go_wp2_with fail
    go_ret
    exact ⟨rfl, rfl⟩
  by_cases h6 : k = 6
  · subst h6
    go_enter Tryz.func36, Tryz.ntmps36
    go_wp2_with fail
    go_ret
    exact ⟨rfl, rfl⟩
  by_cases h7 : k = 7
  · subst h7
    go_enter Tryz.func36, Tryz.ntmps36
    go_wp2_with fail
    go_ret
    exact ⟨rfl, rfl⟩
  by_cases h8 : k = 8
  · subst h8
    go_enter Tryz.func36, Tryz.ntmps36
    go_wp2_with fail
    go_ret
    exact ⟨rfl, rfl⟩
  by_cases h13 : k = 13
  · subst h13
    go_enter Tryz.func36, Tryz.ntmps36
    go_wp2_with fail
    go_ret
    exact ⟨rfl, rfl⟩
  by_cases h14 : k = 14
  · subst h14
    go_enter Tryz.func36, Tryz.ntmps36
    go_wp2_with fail
    go_ret
    exact ⟨rfl, rfl⟩
  by_cases h15 : k = 15
  · subst h15
    go_enter Tryz.func36, Tryz.ntmps36
    go_wp2_with fail
    go_ret
    exact ⟨rfl, rfl⟩
  by_cases h16 : k = 16
  · subst h16
    go_enter Tryz.func36, Tryz.ntmps36
    go_wp2_with fail
    go_ret
    exact ⟨rfl, rfl⟩
  by_cases h17 : k = 17
  · subst h17
    go_enter Tryz.func36, Tryz.ntmps36
    go_wp2_with fail
    go_ret
    exact ⟨rfl, rfl⟩
  by_cases h18 : k = 18
  · subst h18
    go_enter Tryz.func36, Tryz.ntmps36
    go_wp2_with fail
    go_ret
    exact ⟨rfl, rfl⟩
  have hs : sortN k = 0 := by unfold sortN; simp only [if_neg h1, if_neg h2, if_neg h3, if_neg h4, if_neg h5, if_neg h6, if_neg h7, if_neg h8, if_neg h13, if_neg h14, if_neg h15, if_neg h16, if_neg h17, if_neg h18]
  rw [hs]
  have b1 : (k == 1) = false := by rw [beq_eq_false_iff_ne]; exact h1
  have b2 : (k == 2) = false := by rw [beq_eq_false_iff_ne]; exact h2
  have b3 : (k == 3) = false := by rw [beq_eq_false_iff_ne]; exact h3
  have b4 : (k == 4) = false := by rw [beq_eq_false_iff_ne]; exact h4
  have b5 : (k == 5) = false := by rw [beq_eq_false_iff_ne]; exact h5
  have b6 : (k == 6) = false := by rw [beq_eq_false_iff_ne]; exact h6
  have b7 : (k == 7) = false := by rw [beq_eq_false_iff_ne]; exact h7
  have b8 : (k == 8) = false := by rw [beq_eq_false_iff_ne]; exact h8
  have b13 : (k == 13) = false := by rw [beq_eq_false_iff_ne]; exact h13
  have b14 : (k == 14) = false := by rw [beq_eq_false_iff_ne]; exact h14
  have b15 : (k == 15) = false := by rw [beq_eq_false_iff_ne]; exact h15
  have b16 : (k == 16) = false := by rw [beq_eq_false_iff_ne]; exact h16
  have b17 : (k == 17) = false := by rw [beq_eq_false_iff_ne]; exact h17
  have b18 : (k == 18) = false := by rw [beq_eq_false_iff_ne]; exact h18
  clear hs h1 h2 h3 h4 h5 h6 h7 h8 h13 h14 h15 h16 h17 h18
  go_enter Tryz.func36, Tryz.ntmps36
  go_wp2_with fail
  go_ret
  exact ⟨rfl, rfl⟩
end Go.Proofs.YtdfodfflkmcgpaaGreatDoor
