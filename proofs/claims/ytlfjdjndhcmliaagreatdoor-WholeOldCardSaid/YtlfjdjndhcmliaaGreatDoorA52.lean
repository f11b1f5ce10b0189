/- WholeOld, part 52. -/
import Derived.Test.YtlfjdjndhcmliaaGreatDoorA50
set_option maxRecDepth 100000
set_option maxHeartbeats 4000000
set_option linter.all false
namespace Go.Proofs.YtlfjdjndhcmliaaGreatDoor
open Go.ChangeShapes Go.WideShapes Go.ChangeAt Go.RowKit Go.Joins
set_option maxRecDepth 100000
theorem ko0:(Rows.wholeOldRow.wf (OpenSpec.ofChange Rows.wholeOldSpec))=true:=by kernel_rfl
theorem ko1:(laidOutB Tryz.pinned.checked.prog)=true:=by kernel_rfl
theorem ko2:(mapsRowed Tryz.pinned.checked.prog)=true:=by kernel_rfl
theorem ko3:(Tryz.f4.params.all (Tryz.pinned.checked.prog.readableRec ·))=true:=by kernel_rfl
theorem ko4:(namedTie Tryz.pinned.checked.prog Rows.wholeOldRow.named Rows.wholeOldSpec.vars)=true:=by kernel_rfl
theorem ko5:((Rows.wholeOldRow.stops==[]))=true:=by kernel_rfl
theorem ko6:((Tryz.pinned.checked.prog.stops==[]))=true:=by kernel_rfl
theorem ko7:((Rows.wholeOldRow.knobs==[]))=true:=by kernel_rfl
theorem ko8:((Tryz.pinned.checked.prog.stopKnobs==[]))=true:=by kernel_rfl
theorem ko9:((Rows.wholeOldRow.inPlace==Tryz.pinned.checked.prog.inPlace 4))=true:=by kernel_rfl
theorem ZoW:((Rows.wholeOldRow.unfollowed==Tryz.pinned.checked.prog.unfollowed 4))=true:=by kernel_rfl
theorem Zn9:((Rows.wholeOldRow.recurses==Tryz.pinned.checked.prog.recurses 4))=true:=by kernel_rfl
theorem Zo8:((Rows.wholeOldRow.named==Tryz.pinned.checked.prog.varsNamed 4))=true:=by kernel_rfl
theorem Zpj:((Rows.wholeOldRow.maps==(Tryz.f4.params.toList++Rows.wholeOldSpec.plain.varTypes Tryz.pinned.checked.prog).any (Tryz.pinned.checked.prog.mapsRec ·)))=true:=by kernel_rfl
theorem Zpn:((Rows.wholeOldRow.ifaces==(Tryz.f4.params.toList++Rows.wholeOldSpec.plain.varTypes Tryz.pinned.checked.prog).any (Tryz.pinned.checked.prog.ifacesRec ·)))=true:=by kernel_rfl
theorem Zpk:((Rows.wholeOldRow.mapsOut==Tryz.pinned.checked.prog.mapsAmong Tryz.f4.resultTypes.toList))=true:=by kernel_rfl
theorem ZoU:((Rows.wholeOldRow.loops==(Tryz.f4.params.toList++Rows.wholeOldSpec.plain.varTypes Tryz.pinned.checked.prog).any (Tryz.pinned.checked.prog.loopsFrom ·)))=true:=by kernel_rfl
theorem Zn4:((Rows.wholeOldRow.wideKeys==(Tryz.f4.params.toList++Rows.wholeOldSpec.plain.varTypes Tryz.pinned.checked.prog++Tryz.f4.resultTypes.toList).any (Tryz.pinned.checked.prog.wideKeysFrom ·)))=true:=by kernel_rfl
theorem Zpq:(Rows.wholeOldSpec.vars.all (Tryz.pinned.checked.prog.varReadable ·))=true:=by kernel_rfl
theorem ZoT:(Tryz.f4.resultTypes.all (λ t=>Tryz.pinned.checked.prog.readableRec t&&decide (t<Tryz.pinned.checked.prog.types.size)))=true:=by kernel_rfl
theorem Zon:((Rows.wholeOldRow.ifacesOut==Tryz.f4.resultTypes.toList.any (Tryz.pinned.checked.prog.ifacesRec ·)))=true:=by kernel_rfl
theorem Zpl:((Rows.wholeOldRow.loopsOut==Tryz.f4.resultTypes.toList.any (Tryz.pinned.checked.prog.loopsFrom ·)))=true:=by kernel_rfl
theorem Zoz:((Rows.wholeOldRow.plainKeys==Tryz.pinned.checked.prog.plainKeys))=true:=by kernel_rfl
theorem Zpa:(Rows.wholeOldRow.shortTexts.isNone)=true:=by kernel_rfl
theorem Zpi:(Tryz.pinned.checked.prog.stopsHeard)=true:=by kernel_rfl
theorem ZoM:(Tryz.pinned.checked.prog.mayEnter)=true:=by kernel_rfl
theorem Zpv:((Rows.wholeOldRow.lifted==Tryz.pinned.checked.prog.liftsFinal))=true:=by kernel_rfl
theorem Zpr:((Tryz.pinned.checked.prog.make==some Rows.wholeOldRow.make))=true:=by kernel_rfl
theorem Zpo:((Rows.wholeOldRow.kinds==(if Rows.wholeOldRow.domain.isEmpty then []else Tryz.f4.params.toList.map λ t=>match Tryz.pinned.checked.prog.underlying t with|some (.int k)=>some k|_=>none)))=true:=by kernel_rfl
theorem Zoh:((Rows.wholeOldRow.pinned==Rows.wholeOldRow.pinnedBy))=true:=by kernel_rfl
theorem Zoa:((Rows.wholeOldRow.veiled==(Tryz.f4.params.toList++Rows.wholeOldSpec.plain.varTypes Tryz.pinned.checked.prog++Tryz.f4.resultTypes.toList).any (Tryz.pinned.checked.prog.veiledRec ·)))=true:=by kernel_rfl
theorem Zof:(Rows.wholeOldRow.veiledFits Tryz.pinned.checked.prog Tryz.f4.params.toList (Tryz.f4.params.toList++Rows.wholeOldSpec.plain.varTypes Tryz.pinned.checked.prog++Tryz.f4.resultTypes.toList))=true:=by kernel_rfl
theorem XU{a b:Bool}(h:a=true)(k:b=true):(a&&b)=true:=by rw [h,k];rfl
theorem ZgN:joinedFacts Tryz.pinned.checked.prog 4 Tryz.f4 Rows.wholeOldSpec Rows.wholeOldRow=true:=XU (XU (XU (XU (XU (XU (XU (XU (XU (XU (XU (XU (XU (XU (XU (XU (XU (XU (XU (XU (XU (XU (XU (XU (XU (XU (XU (XU (XU (XU (XU ko0 ko1) ko2) ko3) ko4) ko5) ko6) ko7) ko8) ko9) ZoW) Zn9) Zo8) Zpj) Zpn) Zpk) ZoU) Zn4) Zpq) ZoT) Zon) Zpl) Zoz) Zpa) Zpi) ZoM) Zpv) Zpr) Zpo) Zoh) Zoa) Zof
end Go.Proofs.YtlfjdjndhcmliaaGreatDoor
