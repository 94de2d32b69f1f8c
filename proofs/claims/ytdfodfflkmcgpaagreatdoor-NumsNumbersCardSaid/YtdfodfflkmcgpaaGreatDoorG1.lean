import Derived.Test.YtdfodfflkmcgpaaGreatDoorCards
import Derived.Test.YtdfodfflkmcgpaaGreatDoorTie
import Derived.WalkKit
import Derived.ProofKit
import Derived.OpenShut
import Derived.LaidMore
import Derived.Lay
import Derived.SevenTiedAt
import Derived.Deep.DeepHandedRow
import Derived.Stop.Joined
namespace Go.Proofs.YtdfodfflkmcgpaaGreatDoor
open Go.ChangeShapes Go.WideShapes Go.ChangeAt Go.RowKit

set_option maxRecDepth 100000
theorem numsNumbers_k1 : Rows.numsNumbersRow.wf (OpenSpec.ofChange Rows.numsNumbersSpec) = true := by kernel_rfl
theorem numsNumbers_k2 : laidOutB Tryz.prog = true := by kernel_rfl
theorem numsNumbers_k3 : mapsRowed Tryz.prog = true := by kernel_rfl
theorem numsNumbers_k4 : Tryz.f3.params.all (Tryz.prog.readableRec ·) = true := by kernel_rfl
theorem numsNumbers_k5 : namedTie Tryz.prog Rows.numsNumbersRow.named Rows.numsNumbersSpec.vars = true := by kernel_rfl
theorem numsNumbers_k6 : (Rows.numsNumbersRow.stops == []) = true := by kernel_rfl
theorem numsNumbers_k7 : (Tryz.prog.stops == []) = true := by kernel_rfl
theorem numsNumbers_k8 : (Rows.numsNumbersRow.knobs == []) = true := by kernel_rfl
theorem numsNumbers_k9 : (Tryz.prog.stopKnobs == []) = true := by kernel_rfl
theorem numsNumbers_k10 : (Rows.numsNumbersRow.inPlace == Tryz.prog.inPlace 3) = true := by kernel_rfl
theorem numsNumbers_k11 : (Rows.numsNumbersRow.unfollowed == Tryz.prog.unfollowed 3) = true := by kernel_rfl
theorem numsNumbers_k12 : (Rows.numsNumbersRow.recurses == Tryz.prog.recurses 3) = true := by kernel_rfl
theorem numsNumbers_k13 : (Rows.numsNumbersRow.named == Tryz.prog.varsNamed 3) = true := by kernel_rfl
theorem numsNumbers_k14 : (Rows.numsNumbersRow.maps == (Tryz.f3.params.toList ++ Rows.numsNumbersSpec.plain.varTypes Tryz.prog).any (Tryz.prog.mapsRec ·)) = true := by kernel_rfl
theorem numsNumbers_k15 : (Rows.numsNumbersRow.ifaces == (Tryz.f3.params.toList ++ Rows.numsNumbersSpec.plain.varTypes Tryz.prog).any (Tryz.prog.ifacesRec ·)) = true := by kernel_rfl
theorem numsNumbers_k16 : (Rows.numsNumbersRow.mapsOut == Tryz.prog.mapsAmong Tryz.f3.resultTypes.toList) = true := by kernel_rfl
theorem numsNumbers_k17 : (Rows.numsNumbersRow.loops == (Tryz.f3.params.toList ++ Rows.numsNumbersSpec.plain.varTypes Tryz.prog).any (Tryz.prog.loopsFrom ·)) = true := by kernel_rfl
theorem numsNumbers_k18 : (Rows.numsNumbersRow.wideKeys == (Tryz.f3.params.toList ++ Rows.numsNumbersSpec.plain.varTypes Tryz.prog ++ Tryz.f3.resultTypes.toList).any (Tryz.prog.wideKeysFrom ·)) = true := by kernel_rfl
theorem numsNumbers_k19 : Rows.numsNumbersSpec.vars.all (Tryz.prog.varReadable ·) = true := by kernel_rfl
theorem numsNumbers_k20 : Tryz.f3.resultTypes.all (fun t => Tryz.prog.readableRec t && decide (t < Tryz.prog.types.size)) = true := by kernel_rfl
theorem numsNumbers_k21 : (Rows.numsNumbersRow.ifacesOut == Tryz.f3.resultTypes.toList.any (Tryz.prog.ifacesRec ·)) = true := by kernel_rfl
theorem numsNumbers_k22 : (Rows.numsNumbersRow.loopsOut == Tryz.f3.resultTypes.toList.any (Tryz.prog.loopsFrom ·)) = true := by kernel_rfl
theorem numsNumbers_k23 : (Rows.numsNumbersRow.plainKeys == Tryz.prog.plainKeys) = true := by kernel_rfl
theorem numsNumbers_k24 : Rows.numsNumbersRow.shortTexts.isNone = true := by kernel_rfl
theorem numsNumbers_k25 : Tryz.prog.stopsHeard = true := by kernel_rfl
theorem numsNumbers_k26 : Tryz.prog.mayEnter = true := by kernel_rfl
theorem numsNumbers_k27 : (Rows.numsNumbersRow.lifted == Tryz.prog.liftsFinal) = true := by kernel_rfl
theorem numsNumbers_k28 : (Tryz.prog.make == some Rows.numsNumbersRow.make) = true := by kernel_rfl
theorem numsNumbers_k29 : (Rows.numsNumbersRow.kinds == (if Rows.numsNumbersRow.domain.isEmpty then [] else Tryz.f3.params.toList.map fun t => match Tryz.prog.underlying t with | some (.int k) => some k | _ => none)) = true := by kernel_rfl
theorem numsNumbers_k30 : (Rows.numsNumbersRow.pinned == Rows.numsNumbersRow.pinnedBy) = true := by kernel_rfl
theorem numsNumbers_k31 : (Rows.numsNumbersRow.veiled == (Tryz.f3.params.toList ++ Rows.numsNumbersSpec.plain.varTypes Tryz.prog ++ Tryz.f3.resultTypes.toList).any (Tryz.prog.veiledRec ·)) = true := by kernel_rfl
theorem numsNumbers_k32 : Rows.numsNumbersRow.veiledFits Tryz.prog Tryz.f3.params.toList (Tryz.f3.params.toList ++ Rows.numsNumbersSpec.plain.varTypes Tryz.prog ++ Tryz.f3.resultTypes.toList) = true := by kernel_rfl
theorem numsNumbers_joined : joinedFacts Tryz.prog 3 Tryz.f3 Rows.numsNumbersSpec Rows.numsNumbersRow = true := by
  unfold joinedFacts
  simp only [Bool.and_eq_true]
  exact ⟨⟨⟨⟨⟨⟨⟨⟨⟨⟨⟨⟨⟨⟨⟨⟨⟨⟨⟨⟨⟨⟨⟨⟨⟨⟨⟨⟨⟨⟨⟨numsNumbers_k1, numsNumbers_k2⟩, numsNumbers_k3⟩, numsNumbers_k4⟩, numsNumbers_k5⟩, numsNumbers_k6⟩, numsNumbers_k7⟩, numsNumbers_k8⟩, numsNumbers_k9⟩, numsNumbers_k10⟩, numsNumbers_k11⟩, numsNumbers_k12⟩, numsNumbers_k13⟩, numsNumbers_k14⟩, numsNumbers_k15⟩, numsNumbers_k16⟩, numsNumbers_k17⟩, numsNumbers_k18⟩, numsNumbers_k19⟩, numsNumbers_k20⟩, numsNumbers_k21⟩, numsNumbers_k22⟩, numsNumbers_k23⟩, numsNumbers_k24⟩, numsNumbers_k25⟩, numsNumbers_k26⟩, numsNumbers_k27⟩, numsNumbers_k28⟩, numsNumbers_k29⟩, numsNumbers_k30⟩, numsNumbers_k31⟩, numsNumbers_k32⟩
theorem numsNumbers_fn : Tryz.prog.funcNamed Rows.numsNumbersRow.func = some 3 := by kernel_rfl
theorem numsNumbers_inst : Tryz.f3.isInstance Tryz.prog Rows.numsNumbersRow.origin Rows.numsNumbersRow.targs := of_decide_eq_true (by kernel_rfl)
theorem numsNumbers_wrap : Tryz.f3.isWrapper Tryz.prog Rows.numsNumbersRow.wrapper Rows.numsNumbersRow.mainSum := by unfold Func.isWrapper; first | (rw [if_pos (by decide +kernel)]; kernel_rfl) | (rw [if_neg (by decide +kernel)]; exact ⟨rfl, rfl⟩)
theorem numsNumbers_goes : false = Rows.numsNumbersRow.goesBy Tryz.prog := by kernel_rfl
theorem numsNumbers_wft : Rows.numsNumbersRow.wfByText (OpenSpec.ofChange Rows.numsNumbersSpec) = true := by kernel_rfl
end Go.Proofs.YtdfodfflkmcgpaaGreatDoor
