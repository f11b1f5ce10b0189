/- WholeGeoms, part 41. -/
import Derived.Test.YtlfjdjndhcmliaaGreatDoorA40
import Derived.Test.YtlfjdjndhcmliaaGreatDoorTie
import Derived.Test.YtlfjdjndhcmliaaGreatDoorCards
import Derived.LaidMore
import Derived.Lay
import Derived.SevenTiedAt
import Derived.Stop.Joined
set_option maxRecDepth 100000
set_option maxHeartbeats 4000000
set_option linter.all false
namespace Go.Proofs.YtlfjdjndhcmliaaGreatDoor
open Go.ChangeShapes Go.WideShapes Go.ChangeAt Go.RowKit Go.Joins
theorem wg_lifted (walk:LawWalk 3 Tryz.f3.params) (os:Os) (started:os.Started) (H:Type) (enc:TypeId × Value->H) :
  ReturnsInHanded {} Tryz.checked os 3 .any (λ w args=>(Rows.wholeGeomsSpec.pre enc Tryz.prog Tryz.f3 Rows.wholeGeomsRow.domain false w args/\laidMetH Tryz.prog Rows.wholeGeomsRow.laid w)/\sizedMet enc Tryz.prog Tryz.f3 (OpenSpec.ofChange Rows.wholeGeomsSpec) false w args)
   (Rows.wholeGeomsSpec.post enc Tryz.prog Tryz.f3 false true false false):=by
 refine returnsInHanded_of_change_and (C:=Tryz.checked) (X:=λ w _=>laidMetH Tryz.prog Rows.wholeGeomsRow.laid w) (λ _ _ _ hh h=>h.of_heap hh) Tryz.own started (by kernel_rfl) Tryz.func3
  (ChangeSpec.witness_shaped (enc:=enc) (C:=Tryz.checked) (os:=os) (X:=λ w _=>laidMetH Tryz.prog Rows.wholeGeomsRow.laid w) false (World.laidAll Tryz.prog os Rows.wholeGeomsRow.laid) #[.agg #[.slice none 0 0,.int .i64 0],.agg #[.slice none 0 0,.int .i64 0],.slice none 0 0] 8 (World.laidAll_os _ _ _)
   (World.shaped_of_ZipB (by kernel_rfl) (by kernel_rfl)) (by kernel_rfl) (by kernel_rfl) (by kernel_rfl)
   (by rw [MakeChecks.laidMetH_plain _ _ _ (by kernel_rfl)];exact laidMet_laidAll _ (by kernel_rfl) (by kernel_rfl))) ?_
 intro W base args ds gs before hval hW hcnd h1 hL hsz
 have hW':=hW
 obtain ⟨p,q,hA0,hV,hps,hfz,hnd⟩:=hW
 obtain ⟨hgs,hq⟩:=trodVars_none hV
 subst hgs;subst hq
 simp only [List.append_nil] at hps
 subst hps
 have hA:DataW.TrodAll enc Tryz.prog W 0 (λ _=>true) true Tryz.f3.params.toList args.toList ds before:=hA0
 have hlen:∀ (ts:List TypeId) (vs:List Value) (ds:List (DataW H)) (ps:List MemPlace),DataW.TrodAll enc Tryz.prog W 0 (λ _=>true) true ts vs ds ps->ds.length=ts.length:=by
  intro ts
  induction ts with
  | nil=>intro vs ds ps h;obtain ⟨rfl,rfl,rfl⟩:=trodAll_nil h;rfl
  | cons t ts ih=>intro vs ds ps h;obtain ⟨v,vs',d,ds',p,q,rfl,rfl,rfl,hd,hrest⟩:=trodAll_cons h;simp [ih _ _ _ hrest]
 have hl:=hlen _ _ _ _ hA
 have hsz':(DataW.weightsEach Tryz.prog Tryz.f3.params.toList ds).all (·<=reachBytes)=true:=by
  have e:Rows.wholeGeomsSpec.plain.varTypes Tryz.checked.prog=[]:=rfl
  rw [e,List.append_nil,List.append_nil] at h1
  exact h1
 refine (walk H enc W base args ds before hval hA hfz hsz').mono λ e W' ⟨he,hb⟩=>⟨_,he,?_⟩
 have hlt:∀ x∈before,x.block < W.heap.size:=λ x hx=>hW'.lt x hx
 have e1:Rows.wholeGeomsSpec.fn H (ds++[])={ results:=[.lit (.bool true)],args:=ds }:=by
  rw [List.append_nil]
  rw [Tryz.params3] at hl
  match ds,hl with
  | [d1,d2,d3],_=>rfl
 refine ⟨ds,[],before,[],before,[],hW',?_,?_,?_,hb.frame _,λ h=>by cases h⟩
 ·rw [e1];exact trodAll_mk1 (shut_bool Tryz.underlying4 true)
 ·rw [e1];exact trodAll_below Tryz.laidOut hb _ _ _ _ (by kernel_rfl) hA hlt
 ·rw [e1];rfl
theorem wg_holds (walk:LawWalk 3 Tryz.f3.params):Rows.WholeGeomsSaid :=
 OpenClaim.holds_of_wide 3 Tryz.f3 rfl rfl rfl rfl rfl rfl rfl ⟨rfl,rfl,rfl,rfl,rfl⟩ rfl rfl rfl rfl rfl (by kernel_rfl) Tryz.func3 wg_facts
  (of_decide_eq_true (by kernel_rfl)) (by unfold Func.isWrapper;first | (rw [if_pos (by decide +kernel)];kernel_rfl) | (rw [if_neg (by decide +kernel)];exact ⟨rfl,rfl⟩))
  (λ os started H enc _=>wg_lifted walk os started H enc)
theorem wg_card (walk:LawWalk 3 Tryz.f3.params):Rows.WholeGeomsCardSaid :=
 Claim7.holds_tied_plain_at .later [] [.data, .pinned] true (true, "7fb40f46aca9d6bdd3050274ba9ddde1ccbfa92a080233c573c1bd56531b3d35") true (wg_holds walk) (λ _ h => by cases h) (by kernel_rfl) (λ _ h => by cases h) wholeGeoms_row_tie rfl ⟨rfl, rfl⟩ (by kernel_rfl) rfl
  (λ f fn hf hfn=>by
   obtain rfl : f = 3 := Option.some.inj ((show Tryz.prog.funcNamed Tryz.f3.name = some 3 by kernel_rfl).symm.trans hf) |>.symm
   obtain rfl:fn=Tryz.f3:=(Option.some.inj (Tryz.func3.symm.trans hfn)).symm
   exact ⟨by kernel_rfl,λ j t ht=>by
    rw [Tryz.params3] at ht
    have hm:t∈[24,25]:=by
     have:=Array.mem_of_getElem? ht
     simp at this ⊢
     omega
    have hall:([24,25].all λ u=>!Tryz.prog.wantsStandIn u)=true:=by kernel_rfl
    exact (show Tryz.prog.wantsStandIn t=false by simpa using List.all_eq_true.1 hall t hm)⟩)
  (by kernel_rfl)
end Go.Proofs.YtlfjdjndhcmliaaGreatDoor
