import Derived.Test.YtdfodfflkmcgpaaGreatDoorCards
import Derived.Test.YtdfodfflkmcgpaaGreatDoorTie
import Derived.WalkKit
import Derived.ProofKit
import Derived.OpenShut
import Derived.LaidMore
import Derived.Lay
import Derived.SevenTiedAt
import Derived.Deep.DeepHandedRow
import Derived.Stop.Joined
namespace Go.Proofs.YtdfodfflkmcgpaaGreatDoor
open Go.ChangeShapes Go.WideShapes Go.ChangeAt Go.RowKit

set_option maxRecDepth 100000
theorem numsRow_k1 : Rows.numsRowRow.wf (OpenSpec.ofChange Rows.numsRowSpec) = true := by kernel_rfl
theorem numsRow_k2 : laidOutB Tryz.prog = true := by kernel_rfl
theorem numsRow_k3 : mapsRowed Tryz.prog = true := by kernel_rfl
theorem numsRow_k4 : Tryz.f12.params.all (Tryz.prog.readableRec ·) = true := by kernel_rfl
theorem numsRow_k5 : namedTie Tryz.prog Rows.numsRowRow.named Rows.numsRowSpec.vars = true := by kernel_rfl
theorem numsRow_k6 : (Rows.numsRowRow.stops == []) = true := by kernel_rfl
theorem numsRow_k7 : (Tryz.prog.stops == []) = true := by kernel_rfl
theorem numsRow_k8 : (Rows.numsRowRow.knobs == []) = true := by kernel_rfl
theorem numsRow_k9 : (Tryz.prog.stopKnobs == []) = true := by kernel_rfl
theorem numsRow_k10 : (Rows.numsRowRow.inPlace == Tryz.prog.inPlace 12) = true := by kernel_rfl
theorem numsRow_k11 : (Rows.numsRowRow.unfollowed == Tryz.prog.unfollowed 12) = true := by kernel_rfl
theorem numsRow_k12 : (Rows.numsRowRow.recurses == Tryz.prog.recurses 12) = true := by kernel_rfl
theorem numsRow_k13 : (Rows.numsRowRow.named == Tryz.prog.varsNamed 12) = true := by kernel_rfl
theorem numsRow_k14 : (Rows.numsRowRow.maps == (Tryz.f12.params.toList ++ Rows.numsRowSpec.plain.varTypes Tryz.prog).any (Tryz.prog.mapsRec ·)) = true := by kernel_rfl
theorem numsRow_k15 : (Rows.numsRowRow.ifaces == (Tryz.f12.params.toList ++ Rows.numsRowSpec.plain.varTypes Tryz.prog).any (Tryz.prog.ifacesRec ·)) = true := by kernel_rfl
theorem numsRow_k16 : (Rows.numsRowRow.mapsOut == Tryz.prog.mapsAmong Tryz.f12.resultTypes.toList) = true := by kernel_rfl
theorem numsRow_k17 : (Rows.numsRowRow.loops == (Tryz.f12.params.toList ++ Rows.numsRowSpec.plain.varTypes Tryz.prog).any (Tryz.prog.loopsFrom ·)) = true := by kernel_rfl
theorem numsRow_k18 : (Rows.numsRowRow.wideKeys == (Tryz.f12.params.toList ++ Rows.numsRowSpec.plain.varTypes Tryz.prog ++ Tryz.f12.resultTypes.toList).any (Tryz.prog.wideKeysFrom ·)) = true := by kernel_rfl
theorem numsRow_k19 : Rows.numsRowSpec.vars.all (Tryz.prog.varReadable ·) = true := by kernel_rfl
theorem numsRow_k20 : Tryz.f12.resultTypes.all (fun t => Tryz.prog.readableRec t && decide (t < Tryz.prog.types.size)) = true := by kernel_rfl
theorem numsRow_k21 : (Rows.numsRowRow.ifacesOut == Tryz.f12.resultTypes.toList.any (Tryz.prog.ifacesRec ·)) = true := by kernel_rfl
theorem numsRow_k22 : (Rows.numsRowRow.loopsOut == Tryz.f12.resultTypes.toList.any (Tryz.prog.loopsFrom ·)) = true := by kernel_rfl
theorem numsRow_k23 : (Rows.numsRowRow.plainKeys == Tryz.prog.plainKeys) = true := by kernel_rfl
theorem numsRow_k24 : Rows.numsRowRow.shortTexts.isNone = true := by kernel_rfl
theorem numsRow_k25 : Tryz.prog.stopsHeard = true := by kernel_rfl
theorem numsRow_k26 : Tryz.prog.mayEnter = true := by kernel_rfl
theorem numsRow_k27 : (Rows.numsRowRow.lifted == Tryz.prog.liftsFinal) = true := by kernel_rfl
theorem numsRow_k28 : (Tryz.prog.make == some Rows.numsRowRow.make) = true := by kernel_rfl
theorem numsRow_k29 : (Rows.numsRowRow.kinds == (if Rows.numsRowRow.domain.isEmpty then [] else Tryz.f12.params.toList.map fun t => match Tryz.prog.underlying t with | some (.int k) => some k | _ => none)) = true := by kernel_rfl
theorem numsRow_k30 : (Rows.numsRowRow.pinned == Rows.numsRowRow.pinnedBy) = true := by kernel_rfl
theorem numsRow_k31 : (Rows.numsRowRow.veiled == (Tryz.f12.params.toList ++ Rows.numsRowSpec.plain.varTypes Tryz.prog ++ Tryz.f12.resultTypes.toList).any (Tryz.prog.veiledRec ·)) = true := by kernel_rfl
theorem numsRow_k32 : Rows.numsRowRow.veiledFits Tryz.prog Tryz.f12.params.toList (Tryz.f12.params.toList ++ Rows.numsRowSpec.plain.varTypes Tryz.prog ++ Tryz.f12.resultTypes.toList) = true := by kernel_rfl
theorem numsRow_joined : joinedFacts Tryz.prog 12 Tryz.f12 Rows.numsRowSpec Rows.numsRowRow = true := by
  unfold joinedFacts
  simp only [Bool.and_eq_true]
  exact ⟨⟨⟨⟨⟨⟨⟨⟨⟨⟨⟨⟨⟨⟨⟨⟨⟨⟨⟨⟨⟨⟨⟨⟨⟨⟨⟨⟨⟨⟨⟨numsRow_k1, numsRow_k2⟩, numsRow_k3⟩, numsRow_k4⟩, numsRow_k5⟩, numsRow_k6⟩, numsRow_k7⟩, numsRow_k8⟩, numsRow_k9⟩, numsRow_k10⟩, numsRow_k11⟩, numsRow_k12⟩, numsRow_k13⟩, numsRow_k14⟩, numsRow_k15⟩, numsRow_k16⟩, numsRow_k17⟩, numsRow_k18⟩, numsRow_k19⟩, numsRow_k20⟩, numsRow_k21⟩, numsRow_k22⟩, numsRow_k23⟩, numsRow_k24⟩, numsRow_k25⟩, numsRow_k26⟩, numsRow_k27⟩, numsRow_k28⟩, numsRow_k29⟩, numsRow_k30⟩, numsRow_k31⟩, numsRow_k32⟩
theorem numsRow_fn : Tryz.prog.funcNamed Rows.numsRowRow.func = some 12 := by kernel_rfl
theorem numsRow_inst : Tryz.f12.isInstance Tryz.prog Rows.numsRowRow.origin Rows.numsRowRow.targs := of_decide_eq_true (by kernel_rfl)
theorem numsRow_wrap : Tryz.f12.isWrapper Tryz.prog Rows.numsRowRow.wrapper Rows.numsRowRow.mainSum := by unfold Func.isWrapper; first | (rw [if_pos (by decide +kernel)]; kernel_rfl) | (rw [if_neg (by decide +kernel)]; exact ⟨rfl, rfl⟩)
theorem numsRow_goes : false = Rows.numsRowRow.goesBy Tryz.prog := by kernel_rfl
theorem numsRow_wft : Rows.numsRowRow.wfByText (OpenSpec.ofChange Rows.numsRowSpec) = true := by kernel_rfl
end Go.Proofs.YtdfodfflkmcgpaaGreatDoor
