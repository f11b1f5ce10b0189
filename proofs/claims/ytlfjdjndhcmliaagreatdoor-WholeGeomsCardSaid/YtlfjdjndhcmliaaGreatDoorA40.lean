/- WholeGeoms, part 40. -/
import Derived.Test.YtlfjdjndhcmliaaGreatDoorA39
set_option maxRecDepth 100000
set_option maxHeartbeats 4000000
set_option linter.all false
namespace Go.Proofs.YtlfjdjndhcmliaaGreatDoor
open Go.ChangeShapes Go.WideShapes Go.ChangeAt Go.RowKit Go.Joins
set_option maxRecDepth 100000
theorem jf0:(Rows.wholeGeomsRow.wf (OpenSpec.ofChange Rows.wholeGeomsSpec))=true:=by kernel_rfl
theorem jf1:(laidOutB Tryz.pinned.checked.prog)=true:=by kernel_rfl
theorem jf2:(mapsRowed Tryz.pinned.checked.prog)=true:=by kernel_rfl
theorem jf3:(Tryz.f3.params.all (Tryz.pinned.checked.prog.readableRec ·))=true:=by kernel_rfl
theorem jf4:(namedTie Tryz.pinned.checked.prog Rows.wholeGeomsRow.named Rows.wholeGeomsSpec.vars)=true:=by kernel_rfl
theorem jf5:((Rows.wholeGeomsRow.stops == []))=true:=by kernel_rfl
theorem jf6:((Tryz.pinned.checked.prog.stops == []))=true:=by kernel_rfl
theorem jf7:((Rows.wholeGeomsRow.knobs == []))=true:=by kernel_rfl
theorem jf8:((Tryz.pinned.checked.prog.stopKnobs == []))=true:=by kernel_rfl
theorem jf9:((Rows.wholeGeomsRow.inPlace == Tryz.pinned.checked.prog.inPlace 3))=true:=by kernel_rfl
theorem jf10:((Rows.wholeGeomsRow.unfollowed == Tryz.pinned.checked.prog.unfollowed 3))=true:=by kernel_rfl
theorem jf11:((Rows.wholeGeomsRow.recurses == Tryz.pinned.checked.prog.recurses 3))=true:=by kernel_rfl
theorem jf12:((Rows.wholeGeomsRow.named == Tryz.pinned.checked.prog.varsNamed 3))=true:=by kernel_rfl
theorem jf13:((Rows.wholeGeomsRow.maps == (Tryz.f3.params.toList++Rows.wholeGeomsSpec.plain.varTypes Tryz.pinned.checked.prog).any (Tryz.pinned.checked.prog.mapsRec ·)))=true:=by kernel_rfl
theorem jf14:((Rows.wholeGeomsRow.ifaces == (Tryz.f3.params.toList++Rows.wholeGeomsSpec.plain.varTypes Tryz.pinned.checked.prog).any (Tryz.pinned.checked.prog.ifacesRec ·)))=true:=by kernel_rfl
theorem jf15:((Rows.wholeGeomsRow.mapsOut == Tryz.pinned.checked.prog.mapsAmong Tryz.f3.resultTypes.toList))=true:=by kernel_rfl
theorem jf16:((Rows.wholeGeomsRow.loops == (Tryz.f3.params.toList++Rows.wholeGeomsSpec.plain.varTypes Tryz.pinned.checked.prog).any (Tryz.pinned.checked.prog.loopsFrom ·)))=true:=by kernel_rfl
theorem jf17:((Rows.wholeGeomsRow.wideKeys == (Tryz.f3.params.toList++Rows.wholeGeomsSpec.plain.varTypes Tryz.pinned.checked.prog++Tryz.f3.resultTypes.toList).any (Tryz.pinned.checked.prog.wideKeysFrom ·)))=true:=by kernel_rfl
theorem jf18:(Rows.wholeGeomsSpec.vars.all (Tryz.pinned.checked.prog.varReadable ·))=true:=by kernel_rfl
theorem jf19:(Tryz.f3.resultTypes.all (λ t=>Tryz.pinned.checked.prog.readableRec t && decide (t < Tryz.pinned.checked.prog.types.size)))=true:=by kernel_rfl
theorem jf20:((Rows.wholeGeomsRow.ifacesOut == Tryz.f3.resultTypes.toList.any (Tryz.pinned.checked.prog.ifacesRec ·)))=true:=by kernel_rfl
theorem jf21:((Rows.wholeGeomsRow.loopsOut == Tryz.f3.resultTypes.toList.any (Tryz.pinned.checked.prog.loopsFrom ·)))=true:=by kernel_rfl
theorem jf22:((Rows.wholeGeomsRow.plainKeys == Tryz.pinned.checked.prog.plainKeys))=true:=by kernel_rfl
theorem jf23:(Rows.wholeGeomsRow.shortTexts.isNone)=true:=by kernel_rfl
theorem jf24:(Tryz.pinned.checked.prog.stopsHeard)=true:=by kernel_rfl
theorem jf25:(Tryz.pinned.checked.prog.mayEnter)=true:=by kernel_rfl
theorem jf26:((Rows.wholeGeomsRow.lifted == Tryz.pinned.checked.prog.liftsFinal))=true:=by kernel_rfl
theorem jf27:((Tryz.pinned.checked.prog.make == some Rows.wholeGeomsRow.make))=true:=by kernel_rfl
theorem jf28:((Rows.wholeGeomsRow.kinds == (if Rows.wholeGeomsRow.domain.isEmpty then [] else Tryz.f3.params.toList.map λ t=>match Tryz.pinned.checked.prog.underlying t with | some (.int k)=>some k | _=>none)))=true:=by kernel_rfl
theorem jf29:((Rows.wholeGeomsRow.pinned == Rows.wholeGeomsRow.pinnedBy))=true:=by kernel_rfl
theorem jf30:((Rows.wholeGeomsRow.veiled == (Tryz.f3.params.toList++Rows.wholeGeomsSpec.plain.varTypes Tryz.pinned.checked.prog++Tryz.f3.resultTypes.toList).any (Tryz.pinned.checked.prog.veiledRec ·)))=true:=by kernel_rfl
theorem jf31:(Rows.wholeGeomsRow.veiledFits Tryz.pinned.checked.prog Tryz.f3.params.toList (Tryz.f3.params.toList++Rows.wholeGeomsSpec.plain.varTypes Tryz.pinned.checked.prog++Tryz.f3.resultTypes.toList))=true:=by kernel_rfl
theorem band {a b:Bool} (h:a=true) (k:b=true):(a && b)=true:=by rw [h,k];rfl
theorem wg_facts:joinedFacts Tryz.pinned.checked.prog 3 Tryz.f3 Rows.wholeGeomsSpec Rows.wholeGeomsRow=true:=band (band (band (band (band (band (band (band (band (band (band (band (band (band (band (band (band (band (band (band (band (band (band (band (band (band (band (band (band (band (band jf0 jf1) jf2) jf3) jf4) jf5) jf6) jf7) jf8) jf9) jf10) jf11) jf12) jf13) jf14) jf15) jf16) jf17) jf18) jf19) jf20) jf21) jf22) jf23) jf24) jf25) jf26) jf27) jf28) jf29) jf30) jf31
end Go.Proofs.YtlfjdjndhcmliaaGreatDoor
