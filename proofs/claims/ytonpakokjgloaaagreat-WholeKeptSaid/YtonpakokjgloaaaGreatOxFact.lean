/- WholeKept, part 55. No condition. -/
import Derived.Test.YtonpakokjgloaaaGreatRows
import Derived.WalkKit
import Derived.ProofKit
import Derived.OpenShut
import Derived.ChangeOld
set_option linter.all false
section
namespace Go.Proofs.YtonpakokjgloaaaGreat.lawWholeKept
open Go.ChangeShapes Go.WideShapes Go.ChangeAt Go.RowKit
theorem laidOut : laidOutB Tryz.prog = true := by kernel_rfl
theorem j0 : (Rows.wholeKeptRow.wf (OpenSpec.ofChange Rows.wholeKeptSpec)) = true := by kernel_rfl
theorem j1 : (laidOutB Tryz.pinned.checked.prog) = true := laidOut
theorem j2 : (mapsRowed Tryz.pinned.checked.prog) = true := by kernel_rfl
theorem j3 : (Tryz.f3.params.all (Tryz.pinned.checked.prog.readableRec ·)) = true := by kernel_rfl
theorem j4 : (namedTie Tryz.pinned.checked.prog Rows.wholeKeptRow.named Rows.wholeKeptSpec.vars) = true := by kernel_rfl
theorem j5 : ((Tryz.pinned.checked.prog.stops == [])) = true := by kernel_rfl
theorem j6 : ((Tryz.pinned.checked.prog.stopKnobs == [])) = true := by kernel_rfl
theorem j7 : ((Rows.wholeKeptRow.inPlace == Tryz.pinned.checked.prog.inPlace 3)) = true := by kernel_rfl
theorem j8 : ((Rows.wholeKeptRow.unfollowed == Tryz.pinned.checked.prog.unfollowed 3)) = true := by kernel_rfl
theorem j9 : ((Rows.wholeKeptRow.recurses == Tryz.pinned.checked.prog.recurses 3)) = true := by kernel_rfl
theorem j10 : ((Rows.wholeKeptRow.named == Tryz.pinned.checked.prog.varsNamed 3)) = true := by kernel_rfl
theorem j11 : ((Rows.wholeKeptRow.maps == (Tryz.f3.params.toList ++ Rows.wholeKeptSpec.plain.varTypes Tryz.pinned.checked.prog).any (Tryz.pinned.checked.prog.mapsRec ·))) = true := by kernel_rfl
theorem j12 : ((Rows.wholeKeptRow.ifaces == (Tryz.f3.params.toList ++ Rows.wholeKeptSpec.plain.varTypes Tryz.pinned.checked.prog).any (Tryz.pinned.checked.prog.ifacesRec ·))) = true := by kernel_rfl
theorem j13 : ((Rows.wholeKeptRow.mapsOut == Tryz.pinned.checked.prog.mapsAmong Tryz.f3.resultTypes.toList)) = true := by kernel_rfl
theorem j14 : ((Rows.wholeKeptRow.loops == (Tryz.f3.params.toList ++ Rows.wholeKeptSpec.plain.varTypes Tryz.pinned.checked.prog).any (Tryz.pinned.checked.prog.loopsFrom ·))) = true := by kernel_rfl
theorem j15 : ((Rows.wholeKeptRow.wideKeys == (Tryz.f3.params.toList ++ Rows.wholeKeptSpec.plain.varTypes Tryz.pinned.checked.prog ++ Tryz.f3.resultTypes.toList).any (Tryz.pinned.checked.prog.wideKeysFrom ·))) = true := by kernel_rfl
theorem j16 : (Rows.wholeKeptSpec.vars.all (Tryz.pinned.checked.prog.varReadable ·)) = true := by kernel_rfl
theorem j17 : (Tryz.f3.resultTypes.all (fun t => Tryz.pinned.checked.prog.readableRec t && decide (t < Tryz.pinned.checked.prog.types.size))) = true := by kernel_rfl
theorem j18 : ((Rows.wholeKeptRow.ifacesOut == Tryz.f3.resultTypes.toList.any (Tryz.pinned.checked.prog.ifacesRec ·))) = true := by kernel_rfl
theorem j19 : ((Rows.wholeKeptRow.loopsOut == Tryz.f3.resultTypes.toList.any (Tryz.pinned.checked.prog.loopsFrom ·))) = true := by kernel_rfl
theorem j20 : ((Rows.wholeKeptRow.plainKeys == Tryz.pinned.checked.prog.plainKeys)) = true := by kernel_rfl
theorem j21 : (Tryz.pinned.checked.prog.stopsHeard) = true := by kernel_rfl
theorem j22 : (Tryz.pinned.checked.prog.mayEnter) = true := by kernel_rfl
theorem j23 : ((Rows.wholeKeptRow.lifted == Tryz.pinned.checked.prog.liftsFinal)) = true := by kernel_rfl
theorem j24 : ((Tryz.pinned.checked.prog.make == some Rows.wholeKeptRow.make)) = true := by kernel_rfl
theorem j25 : ((Rows.wholeKeptRow.kinds == (if Rows.wholeKeptRow.domain.isEmpty then [] else Tryz.f3.params.toList.map fun t => match Tryz.pinned.checked.prog.underlying t with | some (.int k) => some k | _ => none))) = true := by kernel_rfl
theorem j26 : ((Rows.wholeKeptRow.pinned == Rows.wholeKeptRow.pinnedBy)) = true := by kernel_rfl
theorem j27 : ((Rows.wholeKeptRow.veiled == (Tryz.f3.params.toList ++ Rows.wholeKeptSpec.plain.varTypes Tryz.pinned.checked.prog ++ Tryz.f3.resultTypes.toList).any (Tryz.pinned.checked.prog.veiledRec ·))) = true := by kernel_rfl
theorem j28 : (Rows.wholeKeptRow.veiledFits Tryz.pinned.checked.prog Tryz.f3.params.toList (Tryz.f3.params.toList ++ Rows.wholeKeptSpec.plain.varTypes Tryz.pinned.checked.prog ++ Tryz.f3.resultTypes.toList)) = true := by kernel_rfl
end Go.Proofs.YtonpakokjgloaaaGreat.lawWholeKept
end
section
set_option maxRecDepth 100000
namespace Go.Proofs.YtonpakokjgloaaaGreat.lawWholeKept
open Go.ChangeShapes Go.WideShapes Go.ChangeAt Go.RowKit
theorem bt {a b : Bool} (ha : a = true) (hb : b = true) : (a && b) = true := by rw [ha, hb]; rfl
theorem closed : joinedFacts Tryz.pinned.checked.prog 3 Tryz.f3 Rows.wholeKeptSpec Rows.wholeKeptRow = true := by
 unfold joinedFacts
 refine bt ?_ (j28)
 refine bt ?_ (j27)
 refine bt ?_ (j26)
 refine bt ?_ (j25)
 refine bt ?_ (j24)
 refine bt ?_ (j23)
 refine bt ?_ (j22)
 refine bt ?_ (j21)
 refine bt ?_ (by kernel_rfl)
 refine bt ?_ (j20)
 refine bt ?_ (j19)
 refine bt ?_ (j18)
 refine bt ?_ (j17)
 refine bt ?_ (j16)
 refine bt ?_ (j15)
 refine bt ?_ (j14)
 refine bt ?_ (j13)
 refine bt ?_ (j12)
 refine bt ?_ (j11)
 refine bt ?_ (j10)
 refine bt ?_ (j9)
 refine bt ?_ (j8)
 refine bt ?_ (j7)
 refine bt ?_ (j6)
 refine bt ?_ (by kernel_rfl)
 refine bt ?_ (j5)
 refine bt ?_ (by kernel_rfl)
 refine bt ?_ (j4)
 refine bt ?_ (j3)
 refine bt ?_ (j2)
 refine bt ?_ (j1)
 exact j0
end Go.Proofs.YtonpakokjgloaaaGreat.lawWholeKept
end
