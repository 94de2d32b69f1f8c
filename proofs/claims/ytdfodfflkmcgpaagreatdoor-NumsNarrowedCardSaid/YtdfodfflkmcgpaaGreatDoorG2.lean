import Derived.Test.YtdfodfflkmcgpaaGreatDoorCards
import Derived.Test.YtdfodfflkmcgpaaGreatDoorTie
import Derived.WalkKit
import Derived.ProofKit
import Derived.OpenShut
import Derived.LaidMore
import Derived.Lay
import Derived.SevenTiedAt
import Derived.Deep.DeepHandedRow
import Derived.Stop.Joined
namespace Go.Proofs.YtdfodfflkmcgpaaGreatDoor
open Go.ChangeShapes Go.WideShapes Go.ChangeAt Go.RowKit

set_option maxRecDepth 100000
theorem numsNarrowed_k1 : Rows.numsNarrowedRow.wf (OpenSpec.ofChange Rows.numsNarrowedSpec) = true := by kernel_rfl
theorem numsNarrowed_k2 : laidOutB Tryz.prog = true := by kernel_rfl
theorem numsNarrowed_k3 : mapsRowed Tryz.prog = true := by kernel_rfl
theorem numsNarrowed_k4 : Tryz.f11.params.all (Tryz.prog.readableRec ·) = true := by kernel_rfl
theorem numsNarrowed_k5 : namedTie Tryz.prog Rows.numsNarrowedRow.named Rows.numsNarrowedSpec.vars = true := by kernel_rfl
theorem numsNarrowed_k6 : (Rows.numsNarrowedRow.stops == []) = true := by kernel_rfl
theorem numsNarrowed_k7 : (Tryz.prog.stops == []) = true := by kernel_rfl
theorem numsNarrowed_k8 : (Rows.numsNarrowedRow.knobs == []) = true := by kernel_rfl
theorem numsNarrowed_k9 : (Tryz.prog.stopKnobs == []) = true := by kernel_rfl
theorem numsNarrowed_k10 : (Rows.numsNarrowedRow.inPlace == Tryz.prog.inPlace 11) = true := by kernel_rfl
theorem numsNarrowed_k11 : (Rows.numsNarrowedRow.unfollowed == Tryz.prog.unfollowed 11) = true := by kernel_rfl
theorem numsNarrowed_k12 : (Rows.numsNarrowedRow.recurses == Tryz.prog.recurses 11) = true := by kernel_rfl
theorem numsNarrowed_k13 : (Rows.numsNarrowedRow.named == Tryz.prog.varsNamed 11) = true := by kernel_rfl
theorem numsNarrowed_k14 : (Rows.numsNarrowedRow.maps == (Tryz.f11.params.toList ++ Rows.numsNarrowedSpec.plain.varTypes Tryz.prog).any (Tryz.prog.mapsRec ·)) = true := by kernel_rfl
theorem numsNarrowed_k15 : (Rows.numsNarrowedRow.ifaces == (Tryz.f11.params.toList ++ Rows.numsNarrowedSpec.plain.varTypes Tryz.prog).any (Tryz.prog.ifacesRec ·)) = true := by kernel_rfl
theorem numsNarrowed_k16 : (Rows.numsNarrowedRow.mapsOut == Tryz.prog.mapsAmong Tryz.f11.resultTypes.toList) = true := by kernel_rfl
theorem numsNarrowed_k17 : (Rows.numsNarrowedRow.loops == (Tryz.f11.params.toList ++ Rows.numsNarrowedSpec.plain.varTypes Tryz.prog).any (Tryz.prog.loopsFrom ·)) = true := by kernel_rfl
theorem numsNarrowed_k18 : (Rows.numsNarrowedRow.wideKeys == (Tryz.f11.params.toList ++ Rows.numsNarrowedSpec.plain.varTypes Tryz.prog ++ Tryz.f11.resultTypes.toList).any (Tryz.prog.wideKeysFrom ·)) = true := by kernel_rfl
theorem numsNarrowed_k19 : Rows.numsNarrowedSpec.vars.all (Tryz.prog.varReadable ·) = true := by kernel_rfl
theorem numsNarrowed_k20 : Tryz.f11.resultTypes.all (fun t => Tryz.prog.readableRec t && decide (t < Tryz.prog.types.size)) = true := by kernel_rfl
theorem numsNarrowed_k21 : (Rows.numsNarrowedRow.ifacesOut == Tryz.f11.resultTypes.toList.any (Tryz.prog.ifacesRec ·)) = true := by kernel_rfl
theorem numsNarrowed_k22 : (Rows.numsNarrowedRow.loopsOut == Tryz.f11.resultTypes.toList.any (Tryz.prog.loopsFrom ·)) = true := by kernel_rfl
theorem numsNarrowed_k23 : (Rows.numsNarrowedRow.plainKeys == Tryz.prog.plainKeys) = true := by kernel_rfl
theorem numsNarrowed_k24 : Rows.numsNarrowedRow.shortTexts.isNone = true := by kernel_rfl
theorem numsNarrowed_k25 : Tryz.prog.stopsHeard = true := by kernel_rfl
theorem numsNarrowed_k26 : Tryz.prog.mayEnter = true := by kernel_rfl
theorem numsNarrowed_k27 : (Rows.numsNarrowedRow.lifted == Tryz.prog.liftsFinal) = true := by kernel_rfl
theorem numsNarrowed_k28 : (Tryz.prog.make == some Rows.numsNarrowedRow.make) = true := by kernel_rfl
theorem numsNarrowed_k29 : (Rows.numsNarrowedRow.kinds == (if Rows.numsNarrowedRow.domain.isEmpty then [] else Tryz.f11.params.toList.map fun t => match Tryz.prog.underlying t with | some (.int k) => some k | _ => none)) = true := by kernel_rfl
theorem numsNarrowed_k30 : (Rows.numsNarrowedRow.pinned == Rows.numsNarrowedRow.pinnedBy) = true := by kernel_rfl
theorem numsNarrowed_k31 : (Rows.numsNarrowedRow.veiled == (Tryz.f11.params.toList ++ Rows.numsNarrowedSpec.plain.varTypes Tryz.prog ++ Tryz.f11.resultTypes.toList).any (Tryz.prog.veiledRec ·)) = true := by kernel_rfl
theorem numsNarrowed_k32 : Rows.numsNarrowedRow.veiledFits Tryz.prog Tryz.f11.params.toList (Tryz.f11.params.toList ++ Rows.numsNarrowedSpec.plain.varTypes Tryz.prog ++ Tryz.f11.resultTypes.toList) = true := by kernel_rfl
theorem numsNarrowed_joined : joinedFacts Tryz.prog 11 Tryz.f11 Rows.numsNarrowedSpec Rows.numsNarrowedRow = true := by
  unfold joinedFacts
  simp only [Bool.and_eq_true]
  exact ⟨⟨⟨⟨⟨⟨⟨⟨⟨⟨⟨⟨⟨⟨⟨⟨⟨⟨⟨⟨⟨⟨⟨⟨⟨⟨⟨⟨⟨⟨⟨numsNarrowed_k1, numsNarrowed_k2⟩, numsNarrowed_k3⟩, numsNarrowed_k4⟩, numsNarrowed_k5⟩, numsNarrowed_k6⟩, numsNarrowed_k7⟩, numsNarrowed_k8⟩, numsNarrowed_k9⟩, numsNarrowed_k10⟩, numsNarrowed_k11⟩, numsNarrowed_k12⟩, numsNarrowed_k13⟩, numsNarrowed_k14⟩, numsNarrowed_k15⟩, numsNarrowed_k16⟩, numsNarrowed_k17⟩, numsNarrowed_k18⟩, numsNarrowed_k19⟩, numsNarrowed_k20⟩, numsNarrowed_k21⟩, numsNarrowed_k22⟩, numsNarrowed_k23⟩, numsNarrowed_k24⟩, numsNarrowed_k25⟩, numsNarrowed_k26⟩, numsNarrowed_k27⟩, numsNarrowed_k28⟩, numsNarrowed_k29⟩, numsNarrowed_k30⟩, numsNarrowed_k31⟩, numsNarrowed_k32⟩
theorem numsNarrowed_fn : Tryz.prog.funcNamed Rows.numsNarrowedRow.func = some 11 := by kernel_rfl
theorem numsNarrowed_inst : Tryz.f11.isInstance Tryz.prog Rows.numsNarrowedRow.origin Rows.numsNarrowedRow.targs := of_decide_eq_true (by kernel_rfl)
theorem numsNarrowed_wrap : Tryz.f11.isWrapper Tryz.prog Rows.numsNarrowedRow.wrapper Rows.numsNarrowedRow.mainSum := by unfold Func.isWrapper; first | (rw [if_pos (by decide +kernel)]; kernel_rfl) | (rw [if_neg (by decide +kernel)]; exact ⟨rfl, rfl⟩)
theorem numsNarrowed_goes : false = Rows.numsNarrowedRow.goesBy Tryz.prog := by kernel_rfl
theorem numsNarrowed_wft : Rows.numsNarrowedRow.wfByText (OpenSpec.ofChange Rows.numsNarrowedSpec) = true := by kernel_rfl
end Go.Proofs.YtdfodfflkmcgpaaGreatDoor
