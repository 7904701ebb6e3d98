/- The parts of joinedFacts of DeskNews. -/
import Derived.Test.YtnbjealpcjfllaaGreatDoorCards
import Derived.Test.YtnbjealpcjfllaaGreatDoorTie
import Derived.SevenTiedAt
import Derived.Test.YtnbjealpcjfllaaGreatDoorZl
namespace Go.Proofs.YtnbjealpcjfllaaGreatDoor
set_option linter.unusedVariables false
set_option linter.unusedSimpArgs false
set_option linter.unusedVariables false
set_option linter.unusedSimpArgs false
open Go.ChangeShapes Go.WideShapes Go.ChangeAt Go.RowKit Go.Deep Go.MuLone
theorem ownDeskNews : ownKnob Tryz.prog.godebug = none := by kernel_rfl
theorem laidOutDeskNews : laidOutB Tryz.prog = true := by kernel_rfl
theorem jDeskNews0 : (Rows.deskNewsRow.wf (OpenSpec.ofChange Rows.deskNewsSpec)) = true := by kernel_rfl
theorem jDeskNews1 : (laidOutB Tryz.prog) = true := laidOutDeskNews
theorem jDeskNews2 : (mapsRowed Tryz.prog) = true := by kernel_rfl
theorem jDeskNews3 : (Tryz.f4.params.all (Tryz.prog.readableRec ·)) = true := by kernel_rfl
theorem jDeskNews4 : (namedTie Tryz.prog Rows.deskNewsRow.named Rows.deskNewsSpec.vars) = true := by kernel_rfl
theorem jDeskNews5 : (Rows.deskNewsRow.stops == []) = true := by kernel_rfl
theorem jDeskNews6 : (Tryz.prog.stops == []) = true := by kernel_rfl
theorem jDeskNews7 : (Rows.deskNewsRow.knobs == []) = true := by kernel_rfl
theorem jDeskNews8 : (Tryz.prog.stopKnobs == []) = true := by kernel_rfl
theorem jDeskNews13 : (Rows.deskNewsRow.maps == (Tryz.f4.params.toList ++ Rows.deskNewsSpec.plain.varTypes Tryz.prog).any (Tryz.prog.mapsRec ·)) = true := by kernel_rfl
theorem jDeskNews14 : (Rows.deskNewsRow.ifaces == (Tryz.f4.params.toList ++ Rows.deskNewsSpec.plain.varTypes Tryz.prog).any (Tryz.prog.ifacesRec ·)) = true := by kernel_rfl
theorem jDeskNews15 : (Rows.deskNewsRow.mapsOut == Tryz.prog.mapsAmong Tryz.f4.resultTypes.toList) = true := by kernel_rfl
theorem jDeskNews16 : (Rows.deskNewsRow.loops == (Tryz.f4.params.toList ++ Rows.deskNewsSpec.plain.varTypes Tryz.prog).any (Tryz.prog.loopsFrom ·)) = true := by kernel_rfl
theorem jDeskNews17 : (Rows.deskNewsRow.wideKeys == (Tryz.f4.params.toList ++ Rows.deskNewsSpec.plain.varTypes Tryz.prog ++ Tryz.f4.resultTypes.toList).any (Tryz.prog.wideKeysFrom ·)) = true := by kernel_rfl
theorem jDeskNews18 : (Rows.deskNewsSpec.vars.all (Tryz.prog.varReadable ·)) = true := by kernel_rfl
theorem jDeskNews19 : (Tryz.f4.resultTypes.all (fun t => Tryz.prog.readableRec t && decide (t < Tryz.prog.types.size))) = true := by kernel_rfl
theorem jDeskNews20 : (Rows.deskNewsRow.ifacesOut == Tryz.f4.resultTypes.toList.any (Tryz.prog.ifacesRec ·)) = true := by kernel_rfl
theorem jDeskNews21 : (Rows.deskNewsRow.loopsOut == Tryz.f4.resultTypes.toList.any (Tryz.prog.loopsFrom ·)) = true := by kernel_rfl
theorem jDeskNews22 : (Rows.deskNewsRow.plainKeys == Tryz.prog.plainKeys) = true := by kernel_rfl
theorem jDeskNews23 : (Rows.deskNewsRow.shortTexts.isNone) = true := by kernel_rfl
theorem jDeskNews24 : (Tryz.prog.stopsHeard) = true := by kernel_rfl
theorem jDeskNews25 : (Tryz.prog.mayEnter) = true := by kernel_rfl
theorem jDeskNews26 : (Rows.deskNewsRow.lifted == Tryz.prog.liftsFinal) = true := by kernel_rfl
theorem jDeskNews27 : (Tryz.prog.make == some Rows.deskNewsRow.make) = true := by kernel_rfl
theorem jDeskNews29 : (Rows.deskNewsRow.pinned == Rows.deskNewsRow.pinnedBy) = true := by kernel_rfl
theorem jDeskNews30 : (Rows.deskNewsRow.veiled == (Tryz.f4.params.toList ++ Rows.deskNewsSpec.plain.varTypes Tryz.prog ++ Tryz.f4.resultTypes.toList).any (Tryz.prog.veiledRec ·)) = true := by kernel_rfl
theorem jDeskNews31 : (Rows.deskNewsRow.veiledFits Tryz.prog Tryz.f4.params.toList (Tryz.f4.params.toList ++ Rows.deskNewsSpec.plain.varTypes Tryz.prog ++ Tryz.f4.resultTypes.toList)) = true := by kernel_rfl
theorem joinedDeskNews : joinedFacts Tryz.prog 4 Tryz.f4 Rows.deskNewsSpec Rows.deskNewsRow = true := by
  unfold joinedFacts
  simp only [Bool.and_eq_true]
  exact ⟨⟨⟨⟨⟨⟨⟨⟨⟨⟨⟨⟨⟨⟨⟨⟨⟨⟨⟨⟨⟨⟨⟨⟨⟨⟨⟨⟨⟨⟨⟨jDeskNews0, jDeskNews1⟩, jDeskNews2⟩, jDeskNews3⟩, jDeskNews4⟩, jDeskNews5⟩, jDeskNews6⟩, jDeskNews7⟩, jDeskNews8⟩, jDeskNews9⟩, jDeskNews10⟩, jDeskNews11⟩, jDeskNews12⟩, jDeskNews13⟩, jDeskNews14⟩, jDeskNews15⟩, jDeskNews16⟩, jDeskNews17⟩, jDeskNews18⟩, jDeskNews19⟩, jDeskNews20⟩, jDeskNews21⟩, jDeskNews22⟩, jDeskNews23⟩, jDeskNews24⟩, jDeskNews25⟩, jDeskNews26⟩, jDeskNews27⟩, (by kernel_rfl)⟩, jDeskNews29⟩, jDeskNews30⟩, jDeskNews31⟩
theorem goesBy_of {c : OpenClaim} {P : Program} {f : FuncId} (hs : c.start = .entering) (hf : P.funcNamed c.func = some f)
    (h1 : ((P.closure f).any fun g => (P.funcs[g]?).any Func.goes) = false) (h2 : P.funcs.any Func.goes = false) : false = c.goesBy P := by
  unfold OpenClaim.goesBy Program.goesAt Program.goesFrom
  rw [hs, hf]
  simp [Program.goes, h1, h2]
theorem goesDeskNews0 : ((Tryz.checked.prog.closure 4).any fun g => (Tryz.checked.prog.funcs[g]?).any Func.goes) = false := by kernel_rfl
theorem goesDeskNews1 : (Tryz.checked.prog.funcs.any Func.goes) = false := by kernel_rfl
theorem goesDeskNews : false = Rows.deskNewsRow.goesBy Tryz.checked.prog := goesBy_of rfl (by kernel_rfl) goesDeskNews0 goesDeskNews1
end Go.Proofs.YtnbjealpcjfllaaGreatDoor

