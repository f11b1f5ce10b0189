/- WholeGeoms, part 42. -/
import Derived.Test.YtlfjdjndhcmliaaGreatDoorA38
import Derived.Test.YtlfjdjndhcmliaaGreatDoorA30
import Derived.Test.YtlfjdjndhcmliaaGreatDoorA39
import Derived.Test.YtlfjdjndhcmliaaGreatDoorA41
set_option maxRecDepth 100000
set_option maxHeartbeats 4000000
set_option linter.all false
namespace Go.Proofs.YtlfjdjndhcmliaaGreatDoor
open Go.RowKit Go.Sort
def TruW (W:World) (e:Ending) (w':World):Prop:=e=.returned (.bool true)/\Below W.heap.size W w'
theorem Bt.tru {W w:World} {l:List SP} (B:Bt W (λ _=>none) l w):TruW W (.returned (.bool true)) w:=⟨rfl,B.below0⟩
theorem Bt.gm0 {W w:World} {l:List SP} {t:Slc} (B:Bt W (λ _=>none) l w) (g:GM t W):GM t w:=by
 obtain ⟨g,rfl⟩:=gr_of_below B.below0
 infer_instance
theorem who_at (s t:Slc) (sz tz:Int) (hs:s.len<=9223372036854775807) (ht:t.len<=9223372036854775807) (ad:Option Addr) (n cap:Nat) (L:List AcV) (W:World) [gs:GM s W] [gt:GM t W] (A:RdS 5 ad n cap (L.map λ a=>a.cs.toList) W) :
  Calls Tryz.prog 3 #[.agg #[.slice s.ad s.len s.cap,.int .i64 sz],.agg #[.slice t.ad t.len t.cap,.int .i64 tz],.slice ad n cap] W (TruW W):=by
 have GO:=λ w=>goes_fn w
 haveI BZ:=Bt.zero W
 by_cases hn:n<=12
 ·have L1:=λ (w:World) (_:GM s w) (A:RdS 5 ad n cap (L.map λ a=>a.cs.toList) w)=>laid_at s sz hs ad n cap L hn w A
  have L2:=λ (w:World) (_:GM t w) (A:RdS 5 ad n cap (L.map λ a=>a.cs.toList) w)=>laid_at t tz ht ad n cap L hn w A
  go_enter Tryz.func3,Tryz.ntmps3
  go_wp2_with (first | (with_reducible refine Fn.go λ g=>?_) | ((with_reducible apply wpList_load);(·exact rfl);(·exact ii)))
  refine calls_bt (W:=W) (h:=λ _=>none) ii ?_
  intro w1 B0
  refine (L1 w1 (B0.gm0 gs) (B0.rds0 A)).mono ?_
  rintro e w2 ⟨q1,p1,x1,H1,X1,a1,n1,c1,a2,n2,c2,b1,rfl,hx1,T1,hq1⟩
  have B1:=Bt.join (W:=W) (h:=λ _=>none) B0 T1.new1.1 T1.new1.2
  have HQ1:=Lib.hid hq1
  clear T1 L1 hq1 B0 BZ
  obtain ⟨y1,y2,y3,y4,y5,y6,y7,y8,y9,y10,rfl⟩:=hx1
  dsimp only
  go_wp2_with (first | (with_reducible apply wpList_allocW) | ((with_reducible apply wpList_load);(·exact rfl);(·exact ii)) | ((with_reducible apply wpList_store);(·exact rfl);(·exact rfl);(·exact ii)))
  refine calls_bt (W:=W) (h:=λ _=>none) ii ?_
  intro w3 B2
  clear B1
  refine (L2 w3 (B2.gm0 gt) (B2.rds0 A)).mono ?_
  rintro e w4 ⟨q2,p2,x2,H2,X2,a3,n3,c3,a4,n4,c4,b2,rfl,hx2,T2,hq2⟩
  have B3:=Bt.join (W:=W) (h:=λ _=>none) B2 T2.new1.1 T2.new1.2
  have HQ2:=Lib.hid hq2
  clear T2 L2 hq2 B2
  obtain ⟨z1,z2,z3,z4,z5,z6,z7,z8,z9,z10,rfl⟩:=hx2
  dsimp only
  cases b1 with
  | false =>
   cases b2 <;>
   ·go_wp2_with (first | (with_reducible apply wpList_allocW) | ((with_reducible apply wpList_store);(·exact rfl);(·exact rfl);(·exact ii)))
    go_ret
    exact Bt.tru (l:=[_,_,_,_,_,_,_,_]) ii
  | true =>
   cases b2 with
   | false =>
    go_wp2_with (first | (with_reducible apply wpList_allocW) | ((with_reducible apply wpList_store);(·exact rfl);(·exact rfl);(·exact ii)))
    go_ret
    exact Bt.tru (l:=[_,_,_,_,_,_,_,_]) ii
   | true =>
    rcases HQ1.out with ⟨hf,_⟩ | ⟨_,V,pb,root,C,wd,ia,icap,sa,scap,rfl,o,hE,rfl⟩
    ·cases hf
    rcases HQ2.out with ⟨hf,_⟩ | ⟨_,V2,pb2,root2,C2,wd2,ia2,icap2,sa2,scap2,rfl,o2,hE2,rfl⟩
    ·cases hf
    have S1:=lsame_tq (V:=V) (pb:=pb) (txg:=2) (root:=root) (C:=C) (K0:=λ _ _=>False) (wd:=wd) (by omega) o ia sa icap scap
    have S2:=lsame_tq (V:=V2) (pb:=pb2) (txg:=2) (root:=root2) (C:=C2) (K0:=λ _ _=>False) (wd:=wd2) (by omega) o2 ia2 sa2 icap2 scap2
    rw [<-hE] at S1
    rw [<-hE2] at S2
    simp only [slW] at B3
    clear hE hE2 HQ1 HQ2
    go_wp2_with (first | (with_reducible apply wpList_allocW) | ((with_reducible apply wpList_load);(·exact rfl);(·exact ii)) | ((with_reducible apply wpList_store);(·exact rfl);(·exact rfl);(·exact ii)))
    refine (Bt.call S1).mono ?_
    rintro e w5 ⟨v,q,rfl,⟨rfl,rfl⟩,B4⟩
    clear B3 S1
    dsimp only
    go_wp2_with ((with_reducible apply wpList_loadg);(·exact rfl);(·exact rfl);(·exact ii))
    refine (Bt.call S2).mono ?_
    rintro e w6 ⟨v,q,rfl,⟨rfl,rfl⟩,B5⟩
    clear B4 S2
    dsimp only
    go_wp2_with fail
    go_ret
    exact Bt.tru B5
 ·go_enter Tryz.func3,Tryz.ntmps3
  go_wp2_with (with_reducible refine Fn.go λ g=>?_)
  go_ret
  exact Bt.tru (l:=[_,_]) ii
theorem Tryz.cellsGeom:Tryz.prog.cellsOf 24=2:=by kernel_rfl
theorem Tryz.cellsGroup:Tryz.prog.cellsOf 67=2:=by kernel_rfl
theorem Tryz.cellsI:Tryz.prog.cellsOf 3=1:=by kernel_rfl
section
open Go.ChangeShapes Go.WideShapes Go.Joins
theorem open_geom {H:Type} {enc:TypeId × Value->H} {W:World} {base:Nat} {v:Value} {d:DataW H} {ps:List MemPlace}
  (hv:Value.okWide Tryz.prog W .any base 24 v) (h:DataW.Trod enc Tryz.prog W 0 (λ _=>true) true 24 v d ps) :
  ∃ (s:Slc) (secs:Int),v=.agg #[.slice s.ad s.len s.cap,.int .i64 secs]/\s.len<=9223372036854775807/\GM s W:=by
 obtain ⟨c0,c1,y0,y1,m,rfl,rfl,rfl,hy0,hy1⟩:=open_agg2 Tryz.underlying24 (by kernel_rfl) Tryz.cellsGeom hv h
 obtain ⟨secs,e1,_,wf⟩:=DataW.trod_int Tryz.underlying3 hy1
 obtain ⟨ad,blk,off,len,cap,x,y,rfl,hm,had,hf,ht⟩:=trod_sl2 Tryz.underlying22 Tryz.underlying67 Tryz.cellsGroup Tryz.underlying3 Tryz.cellsI rfl rfl rfl rfl hy0
 simp at e1
 subst e1
 unfold maxLen at hm
 exact ⟨⟨ad,blk,off,len,cap,x,y⟩,secs,rfl,by simp only;omega,⟨λ k hk=>(had k hk).1,λ k hk=>(had k hk).2,hf,ht⟩⟩
theorem lawWalk:LawWalk 3 Tryz.f3.params:=by
 intro H enc W base args ds p hval hA _ _
 rw [Tryz.params3] at hA hval
 obtain ⟨v0,vs,d0,ds1,p0,q1,h1,rfl,rfl,h0,hr1⟩:=trodAll_cons hA
 obtain ⟨v1,vs2,d1,ds2,p1,q2,rfl,rfl,rfl,hg1,hr2⟩:=trodAll_cons hr1
 obtain ⟨v2,vs3,d2,ds3,p2,q3,rfl,rfl,rfl,hg2,hr3⟩:=trodAll_cons hr2
 obtain ⟨rfl,rfl,rfl⟩:=trodAll_nil hr3
 obtain rfl:args=#[v0,v1,v2]:=by apply Array.ext';exact h1
 obtain ⟨s,sz,rfl,hs,gs⟩:=open_geom (hval 0 24 v0 rfl rfl) h0
 obtain ⟨t,tz,rfl,ht,gt⟩:=open_geom (hval 1 24 v1 rfl rfl) hg1
 obtain ⟨ad,n,cap,L,rfl,hn,R⟩:=open_acts (hval 2 25 v2 rfl rfl) hg2
 exact who_at s t sz tz hs ht ad n cap L W R
end
theorem card:Rows.WholeGeomsCardSaid:=wg_card lawWalk
end Go.Proofs.YtlfjdjndhcmliaaGreatDoor
