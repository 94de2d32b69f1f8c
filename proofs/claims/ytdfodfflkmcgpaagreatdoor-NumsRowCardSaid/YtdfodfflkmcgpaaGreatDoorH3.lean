/- NumsRow: the law holds of the program, at every kind and every three numbers of 64 bits: it returns true. -/
import Derived.Test.YtdfodfflkmcgpaaGreatDoorN5
import Derived.Test.YtdfodfflkmcgpaaGreatDoorE2
import Derived.Test.YtdfodfflkmcgpaaGreatDoorG3
namespace Go.Proofs.YtdfodfflkmcgpaaGreatDoor
open Go.ChangeShapes Go.WideShapes Go.ChangeAt Go.RowKit
set_option linter.unusedVariables false
set_option maxRecDepth 100000
theorem u64_range {v : Int} (h : (Lit.int .u64 v).wf = true) : 0 ≤ v ∧ v < 18446744073709551616 := by
  simp only [Lit.wf, Bool.and_eq_true, decide_eq_true_eq] at h
  have e1 : IntKind.u64.min = 0 := by decide
  have e2 : IntKind.u64.max = 18446744073709551615 := by decide
  omega
theorem row_lifted (F : Stop.Interp) (os : Os) (started : os.Started) (H : Type) (enc : TypeId × Value → H) :
    ReturnsInHanded {} Tryz.checked os 12 .any ((OpenSpec.ofChange Rows.numsRowSpec).preRow enc Tryz.checked.prog Tryz.f12 Rows.numsRowRow.domain false LAID) (((OpenSpec.ofChange Rows.numsRowSpec).at F).post enc Tryz.checked.prog Tryz.f12 false true false false) := by
  refine returnsInHanded_of_row (C := Tryz.checked) own started (by kernel_rfl) Tryz.func12
    (ChangeSpec.witness_shaped (enc := enc) (C := Tryz.checked) (os := os) (s := Rows.numsRowSpec) (X := fun w _ => laidMetH Tryz.prog LAID w) false (World.laidAll Tryz.prog os LAID) #[.int .u8 0, .int .u64 0, .int .u64 0, .int .u64 0] 8 (World.laidAll_os _ _ _)
      (World.shaped_of_ZipB (by kernel_rfl) (by kernel_rfl)) (by kernel_rfl) (by kernel_rfl) (by kernel_rfl)
      (by rw [MakeChecks.laidMetH_plain _ _ _ (by kernel_rfl)]; exact laidMet_laidAll _ (by kernel_rfl) (by kernel_rfl))) ?_
  intro W base args ds gs before hval0 hW hc _ _ hL hsh _
  have hl := laidH_plain W hL
  have hW' := hW
  have hval : ∀ (j : Nat) t v, Tryz.f12.params[j]? = some t → args[j]? = some v → Value.okWide Tryz.prog W .any base t v := hval0
  clear hval0
  obtain ⟨p, q, hA0, hV, rfl, _, _⟩ := hW
  have hA : DataW.TrodAll enc Tryz.prog W 0 (fun _ => true) true Tryz.f12.params.toList args.toList ds p := hA0
  clear hA0
  rw [Tryz.params12] at hA hval
  obtain ⟨v0, v1, v2, v3, d0, d1, d2, d3, p0, p1, p2, p3, rfl, rfl, rfl, h0, h1, h2, h3⟩ := trodAll_four hA
  obtain ⟨rfl, rfl⟩ := trodVars_none hV
  obtain ⟨k, rfl, rfl, rfl, wk⟩ := open_int Tryz.underlying23 (hval 0 23 v0 rfl rfl) h0
  obtain ⟨a, rfl, rfl, rfl, wa⟩ := open_int Tryz.underlying25 (hval 1 25 v1 rfl rfl) h1
  obtain ⟨b, rfl, rfl, rfl, wb⟩ := open_int Tryz.underlying25 (hval 2 25 v2 rfl rfl) h2
  obtain ⟨c, rfl, rfl, rfl, wc⟩ := open_int Tryz.underlying25 (hval 3 25 v3 rfl rfl) h3
  simp only [List.append_nil] at hW'
  have ha := u64_range wa
  have hb' := u64_range wb
  have hc' := u64_range wc
  refine (row_any k a b c W (good_of hl hsh (heap17 hl)) (Nat.le_refl _) ha.1 ha.2 hb'.1 hb'.2 hc'.1 hc'.2).mono fun e W' ⟨he, hb⟩ => ?_
  subst he
  exact ⟨_, rfl, post_plain hW' (fun _ _ _ => trodAll_mk1 (shut_bool Tryz.underlying4 _)) (fun sp => trodAll_mk4 (shut_int Tryz.underlying23 wk) (shut_int Tryz.underlying25 wa) (shut_int Tryz.underlying25 wb) (shut_int Tryz.underlying25 wc)) (fun _ => rfl) (hb.frame _) (ok_one (by kernel_rfl) rfl (okWide_bool_mk Tryz.underlying4 _))⟩
theorem row_holds : Rows.NumsRowSaid :=
  OpenClaim.holds_of_wide 12 Tryz.f12 rfl rfl rfl rfl rfl rfl rfl ⟨rfl, rfl, rfl, rfl, rfl⟩ rfl rfl rfl rfl rfl numsRow_fn Tryz.func12 numsRow_joined
    numsRow_inst numsRow_wrap
    (fun os started H enc _ => row_lifted (fun _ _ _ => 0) os started H enc)
theorem w23 : Tryz.prog.wantsStandIn 23 = false := by kernel_rfl
theorem w25 : Tryz.prog.wantsStandIn 25 = false := by kernel_rfl
theorem row_fl (f : FuncId) (fn : Func) (hf : Tryz.prog.funcNamed Rows.numsRowRow.func = some f) (hfn : Tryz.prog.funcs[f]? = some fn) : true = Tryz.prog.looks [] ∧ ∀ (j : Nat) t, fn.params[j]? = some t → Tryz.prog.wantsStandIn t = false := by
  rw [numsRow_fn] at hf
  injection hf with hf
  subst hf
  rw [Tryz.func12] at hfn
  injection hfn with hfn
  subst hfn
  refine ⟨flooks, fun j t ht => ?_⟩
  rw [Tryz.params12] at ht
  match j, ht with
  | 0, ht => obtain rfl : 23 = t := Option.some.inj ht; exact w23
  | 1, ht => obtain rfl : 25 = t := Option.some.inj ht; exact w25
  | 2, ht => obtain rfl : 25 = t := Option.some.inj ht; exact w25
  | 3, ht => obtain rfl : 25 = t := Option.some.inj ht; exact w25
  | j + 4, ht => simp at ht
theorem row_card : Rows.NumsRowCardSaid :=
  Claim7.holds_tied_plain_at .later [] _ _ _ _ row_holds (fun _ h => by cases h) numsRow_wft (fun _ h => by cases h) numsRow_row_tie rfl ⟨rfl, rfl⟩ fmain rfl
    row_fl numsRow_goes
end Go.Proofs.YtdfodfflkmcgpaaGreatDoor
