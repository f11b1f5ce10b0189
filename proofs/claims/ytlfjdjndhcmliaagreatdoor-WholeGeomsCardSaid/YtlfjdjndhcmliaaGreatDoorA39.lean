/- WholeGeoms, part 39. -/
import Derived.Test.YtlfjdjndhcmliaaGreatDoorRows
import Derived.ProofKit
import Derived.OpenShut
import Derived.SizedLaws
import Derived.Carry
import Derived.Lib.SmallJoins
import Derived.Test.YtlfjdjndhcmliaaGreatDoorA29
import Derived.Test.YtlfjdjndhcmliaaGreatDoorA00
set_option maxRecDepth 100000
set_option maxHeartbeats 4000000
set_option linter.all false
namespace Go.Proofs.YtlfjdjndhcmliaaGreatDoor
open Go.ChangeShapes Go.WideShapes Go.ChangeAt Go.RowKit Go.Joins
theorem Tryz.own:ownKnob Tryz.prog.godebug=none:=by kernel_rfl
theorem Tryz.laidOut:laidOutB Tryz.prog=true:=by kernel_rfl
section
variable {H:Type} {enc:TypeId × Value->H} {P:Program} {W W':World}
theorem trodAll_below (hl:laidOutB P=true) (hb:Below W.heap.size W W'):∀ (ts:List TypeId) (vs:List Value) (ds:List (DataW H)) (ps:List MemPlace),
  ts.all (λ t=>P.readableRec t && decide (t < P.types.size))=true->DataW.TrodAll enc P W 0 (λ _=>true) true ts vs ds ps->(∀ x∈ps,x.block < W.heap.size) ->
  DataW.TrodAll enc P W' 0 (λ b=>decide (b < W.heap.size)) true ts vs ds ps
 | [],vs,ds,ps,_,h,_=>by obtain ⟨rfl,rfl,rfl⟩:=trodAll_nil h;exact trodAll_mk0
 | t::ts,vs,ds,ps,hr,h,hlt=>by
  obtain ⟨v,vs',d,ds',p,q,rfl,rfl,rfl,hd,hrest⟩:=trodAll_cons h
  simp only [List.all_cons,Bool.and_eq_true,decide_eq_true_eq] at hr
  exact trodAll_cons_mk (Below.trod hl hr.1.1 hr.1.2 hd hb λ x hx=>hlt x (List.mem_append.2 (.inl hx)))
   (trodAll_below hl hb ts vs' ds' q hr.2 hrest λ x hx=>hlt x (List.mem_append.2 (.inr hx)))
end
def LawWalk (f:FuncId) (params:Array TypeId):Prop :=
 ∀ (H:Type) (enc:TypeId × Value->H) (W:World) (base:Nat) (args:Array Value) (ds:List (DataW H)) (p:List MemPlace),
  (∀ (j:Nat) t v,params[j]?=some t->args[j]?=some v->Value.okWide Tryz.prog W .any base t v) ->
  DataW.TrodAll enc Tryz.prog W 0 (λ _=>true) true params.toList args.toList ds p->W.noneFrozen p ->
  (DataW.weightsEach Tryz.prog params.toList ds).all (·<=reachBytes)=true ->
  Calls Tryz.prog f args W λ e W'=>e=.returned (.bool true)/\Below W.heap.size W W'
end Go.Proofs.YtlfjdjndhcmliaaGreatDoor
namespace Go.Proofs.YtlfjdjndhcmliaaGreatDoor
open Go.RowKit Go.Sort Go.ChangeShapes Go.WideShapes Go.Joins Go.Deep
theorem cells5 {W:World} {a:Addr} {cs:List Value} (h:W.cells? 0 a 5=some cs):cs.length=5/\∀ j,j < 5->W.cell? (a.add j)=cs[j]?:=by
 unfold World.cells? at h
 rw [if_pos (Nat.zero_le _)] at h
 refine ⟨by simpa using mapM_some_length h,λ j hj=>?_⟩
 have:=mapM_some_get h j j (by simp [hj])
 exact this
theorem u8_of {x:Int} (h:(Lit.int .u8 x).wf=true):∃ b:UInt8,x=b.toNat:=by
 have:0<=x/\x<=255:=by simpa [Lit.wf,IntKind.min,IntKind.max,IntKind.signed,IntKind.bits] using h
 refine ⟨UInt8.ofNat x.toNat,?_⟩
 have h2:x.toNat < 256:=by omega
 simp [UInt8.toNat_ofNat,Nat.mod_eq_of_lt h2]
 omega
theorem trod_act {H:Type} {enc:TypeId × Value->H} {W:World} {fuel:Nat} {cs:List Value} {x:DataW H × List MemPlace} (h:DataW.trod enc Tryz.prog W 0 (λ _=>true) true fuel 86 cs=some x) :
  ∃ y:AcV,cs=y.cs.toList:=by
 obtain ⟨xs,n,_,rfl,hl,hlen,hf⟩:=DataW.trod_struct Tryz.underlying86 h
 have c5:Tryz.prog.cellsOf 86=5:=by kernel_rfl
 have c1:Tryz.prog.cellsOf 3=1:=by kernel_rfl
 have c8:Tryz.prog.cellsOf 5=1:=by kernel_rfl
 rw [c5] at hl
 match cs,hl with
 | [u0,u1,u2,u3,u4],_ =>
  match xs,hlen with
  | [y0,y1,y2,y3,y4],_ =>
   have h0:=hf 0 _ rfl
   have h1:=hf 1 _ rfl
   have h2:=hf 2 _ rfl
   have h3:=hf 3 _ rfl
   have h4:=hf 4 _ rfl
   simp [c1,c8] at h0 h1 h2 h3 h4
   obtain ⟨z0,e0,_,w0⟩:=DataW.trod_int Tryz.underlying5 h0
   obtain ⟨z1,e1,_,_⟩:=DataW.trod_int Tryz.underlying3 h1
   obtain ⟨z2,e2,_,_⟩:=DataW.trod_int Tryz.underlying3 h2
   obtain ⟨z3,e3,_,_⟩:=DataW.trod_int Tryz.underlying3 h3
   obtain ⟨z4,e4,_,w4⟩:=DataW.trod_int Tryz.underlying5 h4
   obtain ⟨b0,rfl⟩:=u8_of w0
   obtain ⟨b4,rfl⟩:=u8_of w4
   simp at e0 e1 e2 e3 e4
   subst e0 e1 e2 e3 e4
   exact ⟨⟨b0,z1,z2,z3,b4⟩,rfl⟩
theorem open_acts {H:Type} {enc:TypeId × Value->H} {W:World} {base:Nat} {v:Value} {d:DataW H} {ps:List MemPlace}
  (hv:Value.okWide Tryz.prog W .any base 25 v) (h:DataW.Trod enc Tryz.prog W 0 (λ _=>true) true 25 v d ps) :
  ∃ (ad:Option Addr) (n cap:Nat) (L:List AcV),v=.slice ad n cap/\n<=maxLen/\RdS 5 ad n cap (L.map λ a=>a.cs.toList) W:=by
 obtain ⟨a0,len0,cap0,rfl⟩:=okWide_slice Tryz.underlying25 hv
 obtain ⟨fuel,hf⟩:=h
 have hC:Tryz.prog.cellsOf 86=5:=by kernel_rfl
 replace hf:DataW.trod enc Tryz.prog W 0 (λ _=>true) true fuel 25 [.slice a0 len0 cap0]=some (d,ps):=by simpa [Value.cells] using hf
 rcases open_slice Tryz.underlying25 hf with ⟨hcs,hx⟩ | ⟨a,len,cap,m,n,D,Pl,hcs,_,hl,hm,hmm,hx,hel⟩
 ·simp at hcs
  obtain ⟨rfl,rfl,rfl⟩:=hcs
  exact ⟨none,0,0,[],rfl,Nat.zero_le _,rfl,λ k x e=>by simp at e⟩
 ·simp at hcs
  obtain ⟨rfl,rfl,rfl⟩:=hcs
  simp only [if_true] at hmm
  have each:∀ i,i < len0->∃ y:AcV,∀ (j:Nat) u,y.cs.toList[j]?=some u->W.cell? ((a.add (i*5)).add j)=some u:=by
   intro i hi2
   obtain ⟨cs,hc,hd⟩:=hel i (by omega)
   rw [hC] at hc
   obtain ⟨_,hcell⟩:=cells5 hc
   obtain ⟨y,rfl⟩:=trod_act hd
   refine ⟨y,λ j u hu=>?_⟩
   have hj:j < 5:=by
    have:=(List.getElem?_eq_some_iff.1 hu).1
    simpa [AcV.cs] using this
   rw [hcell j hj]
   exact hu
  by_cases hp:0 < len0
  ·obtain ⟨b,off,spot⟩:=a
   have hspot:spot=none:=by
    obtain ⟨y,h0⟩:=each 0 hp
    simpa [Addr.add] using World.cell?_spot (h0 0 _ rfl)
   subst hspot
   have hb:b < W.heap.size:=by
    obtain ⟨y,h0⟩:=each 0 hp
    simpa [Addr.add] using World.block_lt_of_cell? _ _ (h0 0 _ rfl)
   let f:Nat->AcV:=λ k=>if h:k < len0 then Classical.choose (each k h) else ⟨0,0,0,0,0⟩
   have hfk:∀ k,k < len0->∀ (j:Nat) u,(f k).cs.toList[j]?=some u->W.cell? ⟨b,off+k*5+j,none⟩=some u:=λ k hk j u hu=>by
    have:=Classical.choose_spec (each k hk) j u (by simpa [f,hk] using hu)
    rw [<-add_plain,<- add_plain]
    exact this
   refine ⟨_,len0,cap0,(List.range len0).map f,rfl,by omega,by simp,λ k x e=>?_⟩
   have hk:k < len0:=by
    have:=(List.getElem?_eq_some_iff.1 e).1
    simpa using this
   have e2:x=(f k).cs.toList:=by
    rw [List.getElem?_map,List.getElem?_map,List.getElem?_range hk] at e
    exact (Option.some.inj e).symm
   subst e2
   exact ⟨b,off,rfl,⟨hb⟩,hfk k hk⟩
  ·have:len0=0:=by omega
   subst this
   exact ⟨_,0,cap0,[],rfl,Nat.zero_le _,rfl,λ k x e=>by simp at e⟩
end Go.Proofs.YtlfjdjndhcmliaaGreatDoor
