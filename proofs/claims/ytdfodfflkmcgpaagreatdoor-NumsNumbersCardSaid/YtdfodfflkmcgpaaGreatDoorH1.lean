/- NumsNumbers: the law holds of the program, at every call: it takes no argument and returns true. -/
import Derived.Test.YtdfodfflkmcgpaaGreatDoorD1
import Derived.Test.YtdfodfflkmcgpaaGreatDoorE2
import Derived.Test.YtdfodfflkmcgpaaGreatDoorG1
namespace Go.Proofs.YtdfodfflkmcgpaaGreatDoor
open Go.ChangeShapes Go.WideShapes Go.ChangeAt Go.RowKit
set_option linter.unusedVariables false
set_option maxRecDepth 100000
theorem numbers_lifted (F : Stop.Interp) (os : Os) (started : os.Started) (H : Type) (enc : TypeId × Value → H) :
    ReturnsInHanded {} Tryz.checked os 3 .any ((OpenSpec.ofChange Rows.numsNumbersSpec).preRow enc Tryz.checked.prog Tryz.f3 Rows.numsNumbersRow.domain false LAID) (((OpenSpec.ofChange Rows.numsNumbersSpec).at F).post enc Tryz.checked.prog Tryz.f3 false true false false) := by
  refine returnsInHanded_of_row (C := Tryz.checked) own started (by kernel_rfl) Tryz.func3
    (ChangeSpec.witness_shaped (enc := enc) (C := Tryz.checked) (os := os) (s := Rows.numsNumbersSpec) (X := fun w _ => laidMetH Tryz.prog LAID w) false (World.laidAll Tryz.prog os LAID) #[] 8 (World.laidAll_os _ _ _)
      (World.shaped_of_ZipB (by kernel_rfl) (by kernel_rfl)) (by kernel_rfl) (by kernel_rfl) (by kernel_rfl)
      (by rw [MakeChecks.laidMetH_plain _ _ _ (by kernel_rfl)]; exact laidMet_laidAll _ (by kernel_rfl) (by kernel_rfl))) ?_
  intro W base args ds gs before hval0 hW hc _ _ hL hsh _
  have hl := laidH_plain W hL
  have hW' := hW
  obtain ⟨p, q, hA0, hV, rfl, _, _⟩ := hW
  have hA : DataW.TrodAll enc Tryz.prog W 0 (fun _ => true) true Tryz.f3.params.toList args.toList ds p := hA0
  rw [Tryz.params3] at hA
  obtain ⟨rfl, rfl, rfl⟩ := trodAll_none hA
  obtain ⟨rfl, rfl⟩ := trodVars_none hV
  simp only [List.append_nil] at hW'
  refine (numbers_any W (good_of hl hsh (heap17 hl)) (Nat.le_refl _)).mono fun e W' ⟨he, hb⟩ => ?_
  subst he
  exact ⟨_, rfl, post_plain hW' (fun _ _ _ => trodAll_mk1 (shut_bool Tryz.underlying4 _)) (fun sp => trodAll_mk0) (fun _ => rfl) (hb.frame _) (ok_one (by kernel_rfl) rfl (okWide_bool_mk Tryz.underlying4 _))⟩
theorem numbers_holds : Rows.NumsNumbersSaid :=
  OpenClaim.holds_of_wide 3 Tryz.f3 rfl rfl rfl rfl rfl rfl rfl ⟨rfl, rfl, rfl, rfl, rfl⟩ rfl rfl rfl rfl rfl numsNumbers_fn Tryz.func3 numsNumbers_joined
    numsNumbers_inst numsNumbers_wrap
    (fun os started H enc _ => numbers_lifted (fun _ _ _ => 0) os started H enc)
theorem numbers_fl (f : FuncId) (fn : Func) (hf : Tryz.prog.funcNamed Rows.numsNumbersRow.func = some f) (hfn : Tryz.prog.funcs[f]? = some fn) : true = Tryz.prog.looks [] ∧ ∀ (j : Nat) t, fn.params[j]? = some t → Tryz.prog.wantsStandIn t = false := by
  rw [numsNumbers_fn] at hf
  injection hf with hf
  subst hf
  rw [Tryz.func3] at hfn
  injection hfn with hfn
  subst hfn
  exact ⟨flooks, fun j t ht => by rw [Tryz.params3] at ht; simp at ht⟩
theorem numbers_card : Rows.NumsNumbersCardSaid :=
  Claim7.holds_tied_plain_at .later [] _ _ _ _ numbers_holds (fun _ h => by cases h) numsNumbers_wft (fun _ h => by cases h) numsNumbers_row_tie rfl ⟨rfl, rfl⟩ fmain rfl
    numbers_fl numsNumbers_goes
end Go.Proofs.YtdfodfflkmcgpaaGreatDoor
