import Derived.Test.YtdfodfflkmcgpaaGreatDoorCards
import Derived.Test.YtdfodfflkmcgpaaGreatDoorTie
import Derived.WalkKit
import Derived.ProofKit
import Derived.OpenShut
import Derived.LaidMore
import Derived.Lay
import Derived.SevenTiedAt
import Derived.Deep.DeepHandedRow
import Derived.Stop.Joined
namespace Go.Proofs.YtdfodfflkmcgpaaGreatDoor
open Go.ChangeShapes Go.WideShapes Go.ChangeAt Go.RowKit


set_option maxRecDepth 100000
theorem numsBack_k1 : Rows.numsBackRow.wf (OpenSpec.ofChange Rows.numsBackSpec) = true := by kernel_rfl
theorem numsBack_k2 : laidOutB Tryz.prog = true := by kernel_rfl
theorem numsBack_k3 : mapsRowed Tryz.prog = true := by kernel_rfl
theorem numsBack_k4 : Tryz.f6.params.all (Tryz.prog.readableRec ·) = true := by kernel_rfl
theorem numsBack_k5 : namedTie Tryz.prog Rows.numsBackRow.named Rows.numsBackSpec.vars = true := by kernel_rfl
theorem numsBack_k6 : (Rows.numsBackRow.stops == []) = true := by kernel_rfl
theorem numsBack_k7 : (Tryz.prog.stops == []) = true := by kernel_rfl
theorem numsBack_k8 : (Rows.numsBackRow.knobs == []) = true := by kernel_rfl
theorem numsBack_k9 : (Tryz.prog.stopKnobs == []) = true := by kernel_rfl
theorem numsBack_k10 : (Rows.numsBackRow.inPlace == Tryz.prog.inPlace 6) = true := by kernel_rfl
theorem numsBack_k11 : (Rows.numsBackRow.unfollowed == Tryz.prog.unfollowed 6) = true := by kernel_rfl
theorem numsBack_k12 : (Rows.numsBackRow.recurses == Tryz.prog.recurses 6) = true := by kernel_rfl
theorem numsBack_k13 : (Rows.numsBackRow.named == Tryz.prog.varsNamed 6) = true := by kernel_rfl
theorem numsBack_k14 : (Rows.numsBackRow.maps == (Tryz.f6.params.toList ++ Rows.numsBackSpec.plain.varTypes Tryz.prog).any (Tryz.prog.mapsRec ·)) = true := by kernel_rfl
theorem numsBack_k15 : (Rows.numsBackRow.ifaces == (Tryz.f6.params.toList ++ Rows.numsBackSpec.plain.varTypes Tryz.prog).any (Tryz.prog.ifacesRec ·)) = true := by kernel_rfl
theorem numsBack_k16 : (Rows.numsBackRow.mapsOut == Tryz.prog.mapsAmong Tryz.f6.resultTypes.toList) = true := by kernel_rfl
theorem numsBack_k17 : (Rows.numsBackRow.loops == (Tryz.f6.params.toList ++ Rows.numsBackSpec.plain.varTypes Tryz.prog).any (Tryz.prog.loopsFrom ·)) = true := by kernel_rfl
theorem numsBack_k18 : (Rows.numsBackRow.wideKeys == (Tryz.f6.params.toList ++ Rows.numsBackSpec.plain.varTypes Tryz.prog ++ Tryz.f6.resultTypes.toList).any (Tryz.prog.wideKeysFrom ·)) = true := by kernel_rfl
theorem numsBack_k19 : Rows.numsBackSpec.vars.all (Tryz.prog.varReadable ·) = true := by kernel_rfl
theorem numsBack_k20 : Tryz.f6.resultTypes.all (fun t => Tryz.prog.readableRec t && decide (t < Tryz.prog.types.size)) = true := by kernel_rfl
theorem numsBack_k21 : (Rows.numsBackRow.ifacesOut == Tryz.f6.resultTypes.toList.any (Tryz.prog.ifacesRec ·)) = true := by kernel_rfl
theorem numsBack_k22 : (Rows.numsBackRow.loopsOut == Tryz.f6.resultTypes.toList.any (Tryz.prog.loopsFrom ·)) = true := by kernel_rfl
theorem numsBack_k23 : (Rows.numsBackRow.plainKeys == Tryz.prog.plainKeys) = true := by kernel_rfl
theorem numsBack_k24 : Rows.numsBackRow.shortTexts.isNone = true := by kernel_rfl
theorem numsBack_k25 : Tryz.prog.stopsHeard = true := by kernel_rfl
theorem numsBack_k26 : Tryz.prog.mayEnter = true := by kernel_rfl
theorem numsBack_k27 : (Rows.numsBackRow.lifted == Tryz.prog.liftsFinal) = true := by kernel_rfl
theorem numsBack_k28 : (Tryz.prog.make == some Rows.numsBackRow.make) = true := by kernel_rfl
theorem numsBack_k29 : (Rows.numsBackRow.kinds == (if Rows.numsBackRow.domain.isEmpty then [] else Tryz.f6.params.toList.map fun t => match Tryz.prog.underlying t with | some (.int k) => some k | _ => none)) = true := by kernel_rfl
theorem numsBack_k30 : (Rows.numsBackRow.pinned == Rows.numsBackRow.pinnedBy) = true := by kernel_rfl
theorem numsBack_k31 : (Rows.numsBackRow.veiled == (Tryz.f6.params.toList ++ Rows.numsBackSpec.plain.varTypes Tryz.prog ++ Tryz.f6.resultTypes.toList).any (Tryz.prog.veiledRec ·)) = true := by kernel_rfl
theorem numsBack_k32 : Rows.numsBackRow.veiledFits Tryz.prog Tryz.f6.params.toList (Tryz.f6.params.toList ++ Rows.numsBackSpec.plain.varTypes Tryz.prog ++ Tryz.f6.resultTypes.toList) = true := by kernel_rfl
theorem numsBack_joined : joinedFacts Tryz.prog 6 Tryz.f6 Rows.numsBackSpec Rows.numsBackRow = true := by
  unfold joinedFacts
  simp only [Bool.and_eq_true]
  exact ⟨⟨⟨⟨⟨⟨⟨⟨⟨⟨⟨⟨⟨⟨⟨⟨⟨⟨⟨⟨⟨⟨⟨⟨⟨⟨⟨⟨⟨⟨⟨numsBack_k1, numsBack_k2⟩, numsBack_k3⟩, numsBack_k4⟩, numsBack_k5⟩, numsBack_k6⟩, numsBack_k7⟩, numsBack_k8⟩, numsBack_k9⟩, numsBack_k10⟩, numsBack_k11⟩, numsBack_k12⟩, numsBack_k13⟩, numsBack_k14⟩, numsBack_k15⟩, numsBack_k16⟩, numsBack_k17⟩, numsBack_k18⟩, numsBack_k19⟩, numsBack_k20⟩, numsBack_k21⟩, numsBack_k22⟩, numsBack_k23⟩, numsBack_k24⟩, numsBack_k25⟩, numsBack_k26⟩, numsBack_k27⟩, numsBack_k28⟩, numsBack_k29⟩, numsBack_k30⟩, numsBack_k31⟩, numsBack_k32⟩
theorem numsBack_fn : Tryz.prog.funcNamed Rows.numsBackRow.func = some 6 := by kernel_rfl
theorem numsBack_inst : Tryz.f6.isInstance Tryz.prog Rows.numsBackRow.origin Rows.numsBackRow.targs := of_decide_eq_true (by kernel_rfl)
theorem numsBack_wrap : Tryz.f6.isWrapper Tryz.prog Rows.numsBackRow.wrapper Rows.numsBackRow.mainSum := by unfold Func.isWrapper; first | (rw [if_pos (by decide +kernel)]; kernel_rfl) | (rw [if_neg (by decide +kernel)]; exact ⟨rfl, rfl⟩)
theorem numsBack_goes : false = Rows.numsBackRow.goesBy Tryz.prog := by kernel_rfl
theorem numsBack_wft : Rows.numsBackRow.wfByText (OpenSpec.ofChange Rows.numsBackSpec) = true := by kernel_rfl
end Go.Proofs.YtdfodfflkmcgpaaGreatDoor
