/- NumsShort: the law holds of the program, of either width at every 64 bits: it returns true. -/
import Derived.Test.YtdfodfflkmcgpaaGreatDoorZW
import Derived.Test.YtdfodfflkmcgpaaGreatDoorZE
import Derived.Test.YtdfodfflkmcgpaaGreatDoorG5
namespace Go.Proofs.YtdfodfflkmcgpaaGreatDoor
open Go.ChangeShapes Go.WideShapes Go.ChangeAt Go.RowKit
set_option linter.unusedVariables false
set_option maxRecDepth 100000
theorem short_lifted (F : Stop.Interp) (os : Os) (started : os.Started) (H : Type) (enc : TypeId × Value → H) :
    ReturnsInHanded {} Tryz.checked os 7 .any ((OpenSpec.ofChange Rows.numsShortSpec).preRow enc Tryz.checked.prog Tryz.f7 Rows.numsShortRow.domain false LAID) (((OpenSpec.ofChange Rows.numsShortSpec).at F).post enc Tryz.checked.prog Tryz.f7 false true false false) := by
  refine returnsInHanded_of_row (C := Tryz.checked) own started (by kernel_rfl) Tryz.func7
    (ChangeSpec.witness_shaped (enc := enc) (C := Tryz.checked) (os := os) (s := Rows.numsShortSpec) (X := fun w _ => laidMetH Tryz.prog LAID w) false (World.laidAll Tryz.prog os LAID) #[.bool false, .int .u64 0] 8 (World.laidAll_os _ _ _)
      (World.shaped_of_ZipB (by kernel_rfl) (by kernel_rfl)) (by kernel_rfl) (by kernel_rfl) (by kernel_rfl)
      (by rw [MakeChecks.laidMetH_plain _ _ _ (by kernel_rfl)]; exact laidMet_laidAll _ (by kernel_rfl) (by kernel_rfl))) ?_
  intro W base args ds gs before hval0 hW hc _ _ hL hsh _
  have hl := laidH_plain W hL
  have hW' := hW
  have hval : ∀ (j : Nat) t v, Tryz.f7.params[j]? = some t → args[j]? = some v → Value.okWide Tryz.prog W .any base t v := hval0
  clear hval0
  obtain ⟨p, q, hA0, hV, rfl, _, _⟩ := hW
  have hA : DataW.TrodAll enc Tryz.prog W 0 (fun _ => true) true Tryz.f7.params.toList args.toList ds p := hA0
  clear hA0
  rw [Tryz.params7] at hA hval
  obtain ⟨v0, v1, d0, d1, p0, p1, rfl, rfl, rfl, h0, h1⟩ := trodAll_two hA
  obtain ⟨rfl, rfl⟩ := trodVars_none hV
  obtain ⟨k, rfl, rfl, rfl⟩ := open_bool Tryz.underlying4 (hval 0 4 v0 rfl rfl) h0
  obtain ⟨v, rfl, rfl, rfl, wv⟩ := open_int Tryz.underlying25 (hval 1 25 v1 rfl rfl) h1
  simp only [List.append_nil] at hW'
  have hv : 0 ≤ v ∧ v < 18446744073709551616 := by
    have := wv
    simp only [Lit.wf, Bool.and_eq_true, decide_eq_true_eq] at this
    have e1 : IntKind.u64.min = 0 := by decide
    have e2 : IntKind.u64.max = 18446744073709551615 := by decide
    omega
  obtain ⟨v, rfl⟩ := Int.eq_ofNat_of_zero_le hv.1
  refine (short_any k v W (rich_of hl hsh) (Nat.le_refl _) (by omega)).mono fun e W' ⟨he, hb⟩ => ?_
  subst he
  exact ⟨_, rfl, post_plain hW' (fun _ _ _ => trodAll_mk1 (shut_bool Tryz.underlying4 _)) (fun sp => trodAll_mk2 (shut_bool Tryz.underlying4 k) (shut_int Tryz.underlying25 wv)) (fun _ => rfl) (hb.frame _) (ok_one (by kernel_rfl) rfl (okWide_bool_mk Tryz.underlying4 _))⟩
theorem short_holds : Rows.NumsShortSaid :=
  OpenClaim.holds_of_wide 7 Tryz.f7 rfl rfl rfl rfl rfl rfl rfl ⟨rfl, rfl, rfl, rfl, rfl⟩ rfl rfl rfl rfl rfl numsShort_fn Tryz.func7 numsShort_joined
    numsShort_inst numsShort_wrap
    (fun os started H enc _ => short_lifted (fun _ _ _ => 0) os started H enc)
theorem w4 : Tryz.prog.wantsStandIn 4 = false := by kernel_rfl
theorem w25 : Tryz.prog.wantsStandIn 25 = false := by kernel_rfl
theorem short_fl (f : FuncId) (fn : Func) (hf : Tryz.prog.funcNamed Rows.numsShortRow.func = some f) (hfn : Tryz.prog.funcs[f]? = some fn) : true = Tryz.prog.looks [] ∧ ∀ (j : Nat) t, fn.params[j]? = some t → Tryz.prog.wantsStandIn t = false := by
  rw [numsShort_fn] at hf
  injection hf with hf
  subst hf
  rw [Tryz.func7] at hfn
  injection hfn with hfn
  subst hfn
  refine ⟨flooks, fun j t ht => ?_⟩
  rw [Tryz.params7] at ht
  match j, ht with
  | 0, ht => obtain rfl : 4 = t := Option.some.inj ht; exact w4
  | 1, ht => obtain rfl : 25 = t := Option.some.inj ht; exact w25
  | j + 2, ht => simp at ht
theorem short_card : Rows.NumsShortCardSaid :=
  Claim7.holds_tied_plain_at .later [] _ _ _ _ short_holds (fun _ h => by cases h) numsShort_wft (fun _ h => by cases h) numsShort_row_tie rfl ⟨rfl, rfl⟩ fmain rfl
    short_fl numsShort_goes
end Go.Proofs.YtdfodfflkmcgpaaGreatDoor
