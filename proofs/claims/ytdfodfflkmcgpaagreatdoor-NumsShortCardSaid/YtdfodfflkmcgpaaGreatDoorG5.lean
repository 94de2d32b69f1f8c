import Derived.Test.YtdfodfflkmcgpaaGreatDoorCards
import Derived.Test.YtdfodfflkmcgpaaGreatDoorTie
import Derived.WalkKit
import Derived.ProofKit
import Derived.OpenShut
import Derived.LaidMore
import Derived.Lay
import Derived.SevenTiedAt
import Derived.Deep.DeepHandedRow
import Derived.Stop.Joined
namespace Go.Proofs.YtdfodfflkmcgpaaGreatDoor
open Go.ChangeShapes Go.WideShapes Go.ChangeAt Go.RowKit


set_option maxRecDepth 100000
theorem numsShort_k1 : Rows.numsShortRow.wf (OpenSpec.ofChange Rows.numsShortSpec) = true := by kernel_rfl
theorem numsShort_k2 : laidOutB Tryz.prog = true := by kernel_rfl
theorem numsShort_k3 : mapsRowed Tryz.prog = true := by kernel_rfl
theorem numsShort_k4 : Tryz.f7.params.all (Tryz.prog.readableRec ·) = true := by kernel_rfl
theorem numsShort_k5 : namedTie Tryz.prog Rows.numsShortRow.named Rows.numsShortSpec.vars = true := by kernel_rfl
theorem numsShort_k6 : (Rows.numsShortRow.stops == []) = true := by kernel_rfl
theorem numsShort_k7 : (Tryz.prog.stops == []) = true := by kernel_rfl
theorem numsShort_k8 : (Rows.numsShortRow.knobs == []) = true := by kernel_rfl
theorem numsShort_k9 : (Tryz.prog.stopKnobs == []) = true := by kernel_rfl
theorem numsShort_k10 : (Rows.numsShortRow.inPlace == Tryz.prog.inPlace 7) = true := by kernel_rfl
theorem numsShort_k11 : (Rows.numsShortRow.unfollowed == Tryz.prog.unfollowed 7) = true := by kernel_rfl
theorem numsShort_k12 : (Rows.numsShortRow.recurses == Tryz.prog.recurses 7) = true := by kernel_rfl
theorem numsShort_k13 : (Rows.numsShortRow.named == Tryz.prog.varsNamed 7) = true := by kernel_rfl
theorem numsShort_k14 : (Rows.numsShortRow.maps == (Tryz.f7.params.toList ++ Rows.numsShortSpec.plain.varTypes Tryz.prog).any (Tryz.prog.mapsRec ·)) = true := by kernel_rfl
theorem numsShort_k15 : (Rows.numsShortRow.ifaces == (Tryz.f7.params.toList ++ Rows.numsShortSpec.plain.varTypes Tryz.prog).any (Tryz.prog.ifacesRec ·)) = true := by kernel_rfl
theorem numsShort_k16 : (Rows.numsShortRow.mapsOut == Tryz.prog.mapsAmong Tryz.f7.resultTypes.toList) = true := by kernel_rfl
theorem numsShort_k17 : (Rows.numsShortRow.loops == (Tryz.f7.params.toList ++ Rows.numsShortSpec.plain.varTypes Tryz.prog).any (Tryz.prog.loopsFrom ·)) = true := by kernel_rfl
theorem numsShort_k18 : (Rows.numsShortRow.wideKeys == (Tryz.f7.params.toList ++ Rows.numsShortSpec.plain.varTypes Tryz.prog ++ Tryz.f7.resultTypes.toList).any (Tryz.prog.wideKeysFrom ·)) = true := by kernel_rfl
theorem numsShort_k19 : Rows.numsShortSpec.vars.all (Tryz.prog.varReadable ·) = true := by kernel_rfl
theorem numsShort_k20 : Tryz.f7.resultTypes.all (fun t => Tryz.prog.readableRec t && decide (t < Tryz.prog.types.size)) = true := by kernel_rfl
theorem numsShort_k21 : (Rows.numsShortRow.ifacesOut == Tryz.f7.resultTypes.toList.any (Tryz.prog.ifacesRec ·)) = true := by kernel_rfl
theorem numsShort_k22 : (Rows.numsShortRow.loopsOut == Tryz.f7.resultTypes.toList.any (Tryz.prog.loopsFrom ·)) = true := by kernel_rfl
theorem numsShort_k23 : (Rows.numsShortRow.plainKeys == Tryz.prog.plainKeys) = true := by kernel_rfl
theorem numsShort_k24 : Rows.numsShortRow.shortTexts.isNone = true := by kernel_rfl
theorem numsShort_k25 : Tryz.prog.stopsHeard = true := by kernel_rfl
theorem numsShort_k26 : Tryz.prog.mayEnter = true := by kernel_rfl
theorem numsShort_k27 : (Rows.numsShortRow.lifted == Tryz.prog.liftsFinal) = true := by kernel_rfl
theorem numsShort_k28 : (Tryz.prog.make == some Rows.numsShortRow.make) = true := by kernel_rfl
theorem numsShort_k29 : (Rows.numsShortRow.kinds == (if Rows.numsShortRow.domain.isEmpty then [] else Tryz.f7.params.toList.map fun t => match Tryz.prog.underlying t with | some (.int k) => some k | _ => none)) = true := by kernel_rfl
theorem numsShort_k30 : (Rows.numsShortRow.pinned == Rows.numsShortRow.pinnedBy) = true := by kernel_rfl
theorem numsShort_k31 : (Rows.numsShortRow.veiled == (Tryz.f7.params.toList ++ Rows.numsShortSpec.plain.varTypes Tryz.prog ++ Tryz.f7.resultTypes.toList).any (Tryz.prog.veiledRec ·)) = true := by kernel_rfl
theorem numsShort_k32 : Rows.numsShortRow.veiledFits Tryz.prog Tryz.f7.params.toList (Tryz.f7.params.toList ++ Rows.numsShortSpec.plain.varTypes Tryz.prog ++ Tryz.f7.resultTypes.toList) = true := by kernel_rfl
theorem numsShort_joined : joinedFacts Tryz.prog 7 Tryz.f7 Rows.numsShortSpec Rows.numsShortRow = true := by
  unfold joinedFacts
  simp only [Bool.and_eq_true]
  exact ⟨⟨⟨⟨⟨⟨⟨⟨⟨⟨⟨⟨⟨⟨⟨⟨⟨⟨⟨⟨⟨⟨⟨⟨⟨⟨⟨⟨⟨⟨⟨numsShort_k1, numsShort_k2⟩, numsShort_k3⟩, numsShort_k4⟩, numsShort_k5⟩, numsShort_k6⟩, numsShort_k7⟩, numsShort_k8⟩, numsShort_k9⟩, numsShort_k10⟩, numsShort_k11⟩, numsShort_k12⟩, numsShort_k13⟩, numsShort_k14⟩, numsShort_k15⟩, numsShort_k16⟩, numsShort_k17⟩, numsShort_k18⟩, numsShort_k19⟩, numsShort_k20⟩, numsShort_k21⟩, numsShort_k22⟩, numsShort_k23⟩, numsShort_k24⟩, numsShort_k25⟩, numsShort_k26⟩, numsShort_k27⟩, numsShort_k28⟩, numsShort_k29⟩, numsShort_k30⟩, numsShort_k31⟩, numsShort_k32⟩
theorem numsShort_fn : Tryz.prog.funcNamed Rows.numsShortRow.func = some 7 := by kernel_rfl
theorem numsShort_inst : Tryz.f7.isInstance Tryz.prog Rows.numsShortRow.origin Rows.numsShortRow.targs := of_decide_eq_true (by kernel_rfl)
theorem numsShort_wrap : Tryz.f7.isWrapper Tryz.prog Rows.numsShortRow.wrapper Rows.numsShortRow.mainSum := by unfold Func.isWrapper; first | (rw [if_pos (by decide +kernel)]; kernel_rfl) | (rw [if_neg (by decide +kernel)]; exact ⟨rfl, rfl⟩)
theorem numsShort_goes : false = Rows.numsShortRow.goesBy Tryz.prog := by kernel_rfl
theorem numsShort_wft : Rows.numsShortRow.wfByText (OpenSpec.ofChange Rows.numsShortSpec) = true := by kernel_rfl
end Go.Proofs.YtdfodfflkmcgpaaGreatDoor
