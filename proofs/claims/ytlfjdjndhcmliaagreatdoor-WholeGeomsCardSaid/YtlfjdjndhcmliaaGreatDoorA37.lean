/- WholeGeoms, part 37. -/
import Derived.Test.YtlfjdjndhcmliaaGreatDoorA36
import Derived.Test.YtlfjdjndhcmliaaGreatDoorA30
set_option maxRecDepth 100000
set_option maxHeartbeats 4000000
set_option linter.all false
namespace Go.Proofs.YtlfjdjndhcmliaaGreatDoor
open Go.RowKit Go.Sort
section
variable {V:VD} {pb txg:Nat} {root:Nd} {C:Nat} {K0:KS} {wd:Wd}
def ChgR (V:VD) (pb txg:Nat) (root:Nd) (C:Nat) (K0:KS) (v:Value) (q:SP):Prop :=
 (∃ H X a1 n1 c1 a2 n2 c2,v=.tuple #[.agg (wlC H X (.slice a1 n1 c1) (.slice a2 n2 c2)),.bool false]/\q=star []) \/
 ∃ wd' ia icap sa scap,WdOk wd'/\v=.tuple #[.agg (wlW wd' ia icap sa scap),.bool true]/\q=star (PoS V pb txg root C K0 wd'::slW wd' ia icap sa scap)
theorem lchg_tq (ht:txg+1<=4294967295) (hC:2000000<=C) (ad:Option Addr) (n cap:Nat) (L:List AcV) (hn:n<=12) (o:WdOk wd) (ia sa:Option Addr) (icap scap:Nat) :
  TqA (ActsIn ad n cap L) 9 #[pV pb,.agg (wlW wd ia icap sa scap),.slice ad n cap] (star (PoS V pb txg root C K0 wd::slW wd ia icap sa scap)) (ChgR V pb txg root (C - 2000000) K0):=by
 refine TqA.of λ W h B0 A=>?_
 have B:=B0.flat
 simp only [slW,List.cons_append,List.nil_append] at B
 clear B0
 unfold wlW
 go_enter Tryz.func9,Tryz.ntmps9
 go_wp2_with (with_reducible apply wpList_allocW)
 refine wp_world (W:=W) (h:=h) (l:=[BlkP (W.heap.size+1) wl0 39,BlkP W.heap.size (wlC (hasO wd.live) (txtO wd.live) (.slice ia wd.snaps.length icap) (.slice sa wd.snaps.length scap)) 39,PoS V pb txg root C K0 wd,SlP 3 1 ia wd.snaps.length icap (idC wd.snaps),SlP 35 64 sa wd.snaps.length scap (ssC wd.snaps)]) ii ?_
 clear B
 rintro w1 B1
 go_loopw [8] (λ iv wr=>∃ (k:Nat) (wd:Wd) (ia sa:Option Addr) (icap scap:Nat),(k<=n/\WdOk wd)/\iv=.int .i64 k/\Bt W h [BlkP (W.heap.size+1) wl0 39,BlkP W.heap.size (wlW wd ia icap sa scap) 39,PoS V pb txg root (C - 140000*k) K0 wd,SlP 3 1 ia wd.snaps.length icap (idC wd.snaps),SlP 35 64 sa wd.snaps.length scap (ssC wd.snaps)] wr)
  (λ iv _=>n - (intOf iv).toNat)
 case atStart=>exact ⟨0,wd,ia,sa,icap,scap,⟨Nat.zero_le _,o⟩,rfl,B1⟩
 case round =>
  clear B1 o
  obtain ⟨k,wd,ia,sa,icap,scap,⟨hk,o⟩,rfl,B⟩:=hrel
  have Ra:=A.bt B
  by_cases hlt:k < n
  ·obtain ⟨x,hx⟩:∃ x,L[k]?=some x:=⟨_,List.getElem?_eq_getElem (by have:=Ra.len;simp at this;omega)⟩
   obtain ⟨b,og,rfl,hb,hc⟩:=Ra.cells k x.cs.toList (by simp [hx])
   have RC:∀ (w:World) (l:List SP),Bt W h l w->SubAt b (og+k*5) x.cs 5 w/\w.cell? ⟨b,og+k*5,none⟩=some (.int .u8 x.d.toNat):=λ w l B=>by
    obtain ⟨b',og',e,hb',hc'⟩:=(A.bt B).cells k x.cs.toList (by simp [hx])
    cases e
    exact ⟨⟨rfl,hb',λ j v e=>hc' j v e⟩,hc' 0 (.int .u8 x.d.toNat) rfl⟩
   haveI:=(RC _ _ B).1
   have HA:=Lib.hid RC
   clear RC hb
   have s1:=rd_sl B (i:=3) rfl
   have s2:=rd_sl B (i:=4) rfl
   have RA:=λ (w:World) (r1:RdS 1 ia wd.snaps.length icap (idC wd.snaps) w) (r2:RdS 64 sa wd.snaps.length scap (ssC wd.snaps) w)=>rdo_at x o s1.2.2 s2.2.2 s1.2.1 s2.2.1 w r1 r2
   clear s1 s2
   unfold wlW at B RA
   have LD:=ldo_tq (V:=V) (pb:=pb) (root:=root) (C:=C - 140000*k) (K0:=K0) (wd:=wd) ht (by omega) x
   have ec:C - 140000*k - 140000=C - 140000*(k+1):=by omega
   rw [ec] at LD
   clear hc hx Ra ec
   go_wp2_with fail
   (first | (with_reducible refine pl2 (.q [0,1,2,3,4] (.y 5 9 (.q [6,7] (.f [8] (.g 9 (.x [10] (.q [11] .d))))) (.x [5] (.q [6,7] (.f [8] (.x [10] (.q [11] .d))))))) ?_) | refine pl1 (.q [0,1,2,3,4] (.y 5 9 (.q [6,7] (.f [8] (.g 9 (.x [10] (.q [11] .d))))) (.x [5] (.q [6,7] (.f [8] (.x [10] (.q [11] .d))))))) ?_);simp only [Plan.run,pick,gZ,gS,gA,gN]
   (repeat (first | ((with_reducible apply wpQuiet_load);(·exact rfl);(·rintro _ ⟨gq,rfl⟩;exact ii);go_frame) | go_big_quiet_step (exact qZ)));refine nZ ?_
   refine ⟨?left,?right⟩
   case' left =>
    refine btI ?_
    intro w2 B2
    clear B
    go_wp2_with fail
    refine (RA w2 (rd_sl B2 (i:=3) rfl).1 (rd_sl B2 (i:=4) rfl).1).mono ?_
    rintro e w3 ⟨H,X,a1,n1,c1,a2,n2,c2,want,q,rfl,N,hR⟩
    have HRR:=Lib.hid hR
    clear hR
    have B3:=Bt.join (W:=W) (h:=h) B2 N.1 N.2
    clear B2 N RA
    dsimp only
    go_wp2_with fail
    dsimp only [Nx]
    (repeat go_big_quiet_step (exact qZ));refine nZ ?_
    (repeat go_big_quiet_step (exact qZ));refine nZ ?_
    rintro w4 hw4
    go_wp2_with (with_reducible apply wpList_allocW)
    dsimp only [Nx]
    refine ⟨by obtain ⟨g,rfl⟩:=hw4;exact ⟨_,gr_alloc _ _ _⟩,?_⟩
    rintro w5 hw5
    have B4:Bt W h _ w4:=btCls hw4
    have B5:Bt W h _ w5:=btCls hw5
    clear hw4 hw5 B3 B4
    go_wp2_with ((with_reducible apply wpList_store);(·exact rfl);(·exact rfl);(·exact ii))
    dsimp only [Nx]
    (try go_frame)
    (repeat go_big_quiet_step (exact qZ));refine nZ ?_
    refine btI ?_
    intro w6 B6
    clear B5
    generalize w4.heap.size=nb at B6 ⊢
   case' right =>
    rintro w2 hw2
    go_wp2_with (with_reducible apply wpList_allocW)
    dsimp only [Nx]
    refine ⟨by obtain ⟨g,rfl⟩:=hw2;exact ⟨_,gr_alloc _ _ _⟩,?_⟩
    rintro w4 hw4
    have B2:Bt W h _ w2:=btCls hw2
    have B4:Bt W h _ w4:=btCls hw4
    clear hw2 hw4 B B2
    go_wp2_with fail
    refine (RA w4 (rd_sl B4 (i:=4) rfl).1 (rd_sl B4 (i:=5) rfl).1).mono ?_
    rintro e w3 ⟨H,X,a1,n1,c1,a2,n2,c2,want,q,rfl,N,hR⟩
    have HRR:=Lib.hid hR
    clear hR
    have B3:=Bt.join (W:=W) (h:=h) B4 N.1 N.2
    clear B4 N RA
    dsimp only
    go_wp2_with fail
    dsimp only [Nx]
    (repeat go_big_quiet_step (exact qZ));refine nZ ?_
    (repeat go_big_quiet_step (exact qZ));refine nZ ?_
    refine btI ?_
    intro w5 B5
    clear B3
    go_wp2_with ((with_reducible apply wpList_store);(·exact rfl);(·exact rfl);(·exact ii))
    dsimp only [Nx]
    (try go_frame)
    (repeat go_big_quiet_step (exact qZ));refine nZ ?_
    refine btI ?_
    intro w6 B7
    clear B5
    have B6:=Bt.oS (B7) [1,0,2,3,4,5,6]
    clear B7
    generalize w2.heap.size=nb at B6 ⊢
   all_goals
    haveI:=(HA.out _ _ B6).1
    go_wp2_with ((with_reducible apply wpList_load);(·exact rfl);(·exact ii))
    refine (Bt.call LD).mono ?_
    rintro e w7 ⟨v,q2,rfl,hQ,B7⟩
    clear B6 LD
    have c7:=(HA.out _ _ B7).2
    dsimp only
    rcases hQ with ⟨er,he,rfl,rfl⟩ | ⟨wd2,rfl,hD,rfl⟩
    ·by_cases h8:er=8
     ·subst h8
      by_cases h5:(x.d.toNat:Int) % 8 < 5
      ·have B8:=B7.drop.drop
       clear B7 HRR
       go_wp2_with fail
       exact ⟨⟨k+1,wd,ia,sa,icap,scap,⟨hlt,o⟩,by go_num,B8⟩,by simp [intOf];omega⟩
      ·have q5:decide ((x.d.toNat:Int) % 8 < 5)=false:=by simpa using h5
       by_cases hw:(8:Int)=want
       ·subst hw
        have qn:((8:Int) != 8)=false:=by simp
        rcases HRR.out with ⟨_,hE,rfl⟩ | ⟨hz,_⟩
        ·have HE:=Lib.hid hE
         clear hE
         have B8:=Bt.oS (B7) [1,0,2,3,4,5,6]
         have B9:=B8.drop
         clear B7 B8
         go_wp2_with (first | ((with_reducible apply wpList_load);(·exact rfl);(·exact ii)) | ((with_reducible apply wpList_store);(·exact rfl);(·exact rfl);(·exact ii)))
         refine ⟨⟨k+1,wd,ia,sa,icap,scap,⟨hlt,o⟩,by go_num,?_⟩,by simp [intOf];omega⟩
         rw [<-HE.out]
         refine Bt.drop (p:=BlkP nb (wlC H X (.slice a1 n1 c1) (.slice a2 n2 c2)) 39) ?_
         infer_instance
        ·exact absurd hz he
       ·have qn:((8:Int) != want)=true:=by simp [hw]
        go_wp2_with (first | ((with_reducible apply wpList_load);(·exact rfl);(·exact ii)) | ((with_reducible apply wpList_store);(·exact rfl);(·exact rfl);(·exact ii)))
        (refine bodyPost_ret (results_ct (z:=66) rfl _ _ _ _ rfl inferInstance Tryz.underlying39 rfl (by kernel_rfl)) rfl ?_)
        first | exact fin_w (W:=W) (h:=h) (l:=[_,_,_,_,_,_,_]) ii λ w9 B9=>⟨star [],.inl ⟨_,_,_,_,_,_,_,_,rfl,rfl⟩,B9.t.mono λ _ _=>trivial⟩ | exact fin_w2 (W:=W) (h:=h) (l:=[_,_,_,_,_,_,_]) ii λ w9 B9=>⟨star [],.inl ⟨_,_,_,_,_,_,_,_,rfl,rfl⟩,B9.t.mono λ _ _=>trivial⟩
     ·have q8:(er == 8)=false:=by simp [h8]
      by_cases hw:er=want
      ·subst hw
       have qn:(er != er)=false:=by simp
       rcases HRR.out with ⟨_,hE,rfl⟩ | ⟨hz,_⟩
       ·have HE:=Lib.hid hE
        clear hE
        have B8:=Bt.oS (B7) [1,0,2,3,4,5,6]
        have B9:=B8.drop
        clear B7 B8
        go_wp2_with (first | ((with_reducible apply wpList_load);(·exact rfl);(·exact ii)) | ((with_reducible apply wpList_store);(·exact rfl);(·exact rfl);(·exact ii)))
        refine ⟨⟨k+1,wd,ia,sa,icap,scap,⟨hlt,o⟩,by go_num,?_⟩,by simp [intOf];omega⟩
        rw [<-HE.out]
        refine Bt.drop (p:=BlkP nb (wlC H X (.slice a1 n1 c1) (.slice a2 n2 c2)) 39) ?_
        infer_instance
       ·exact absurd hz he
      ·have qn:(er != want)=true:=by simp [hw]
       go_wp2_with (first | ((with_reducible apply wpList_load);(·exact rfl);(·exact ii)) | ((with_reducible apply wpList_store);(·exact rfl);(·exact rfl);(·exact ii)))
       (refine bodyPost_ret (results_ct (z:=66) rfl _ _ _ _ rfl inferInstance Tryz.underlying39 rfl (by kernel_rfl)) rfl ?_)
       first | exact fin_w (W:=W) (h:=h) (l:=[_,_,_,_,_,_,_]) ii λ w9 B9=>⟨star [],.inl ⟨_,_,_,_,_,_,_,_,rfl,rfl⟩,B9.t.mono λ _ _=>trivial⟩ | exact fin_w2 (W:=W) (h:=h) (l:=[_,_,_,_,_,_,_]) ii λ w9 B9=>⟨star [],.inl ⟨_,_,_,_,_,_,_,_,rfl,rfl⟩,B9.t.mono λ _ _=>trivial⟩
    ·by_cases hw:want=0
     ·subst hw
      rcases HRR.out with ⟨hne,_⟩ | ⟨_,wd',ia',ic',sa',sc',hD',hE,rfl⟩
      ·exact absurd rfl hne
      ·obtain rfl:=DoO.one o hD hD'
       have HE:=Lib.hid hE
       clear hE
       have B8:=Bt.oS (B7) [1,5,6,0,2,3,4]
       have B9:=B8.flat
       simp only [slW,List.cons_append,List.nil_append] at B9
       have B10:=Bt.oS (B9) [2,3,4,5,6,7,0,1]
       have B11:=B10.drop.drop
       clear B7 B8 B9 B10
       go_wp2_with (first | ((with_reducible apply wpList_load);(·exact rfl);(·exact ii)) | ((with_reducible apply wpList_store);(·exact rfl);(·exact rfl);(·exact ii)))
       refine ⟨⟨k+1,wd2,ia',sa',ic',sc',⟨hlt,hD.ok o⟩,by go_num,?_⟩,by simp [intOf];omega⟩
       rw [<-HE.out]
       refine Bt.drop (p:=BlkP nb (wlC H X (.slice a1 n1 c1) (.slice a2 n2 c2)) 39) ?_
       infer_instance
     ·have qn:((0:Int) != want)=true:=by simp;exact λ h=>hw h.symm
      go_wp2_with (first | ((with_reducible apply wpList_load);(·exact rfl);(·exact ii)) | ((with_reducible apply wpList_store);(·exact rfl);(·exact rfl);(·exact ii)))
      (refine bodyPost_ret (results_ct (z:=66) rfl _ _ _ _ rfl inferInstance Tryz.underlying39 rfl (by kernel_rfl)) rfl ?_)
      first | exact fin_w (W:=W) (h:=h) (l:=[_,_,_,_,_,_,_]) ii λ w9 B9=>⟨star [],.inl ⟨_,_,_,_,_,_,_,_,rfl,rfl⟩,B9.t.mono λ _ _=>trivial⟩ | exact fin_w2 (W:=W) (h:=h) (l:=[_,_,_,_,_,_,_]) ii λ w9 B9=>⟨star [],.inl ⟨_,_,_,_,_,_,_,_,rfl,rfl⟩,B9.t.mono λ _ _=>trivial⟩
  ·obtain rfl:k=n:=by omega
   unfold wlW at B
   go_wp2_with (first | ((with_reducible apply wpList_load);(·exact rfl);(·exact ii)) | ((with_reducible apply wpList_store);(·exact rfl);(·exact rfl);(·exact ii)))
   (refine bodyPost_ret (results_ct (z:=66) rfl _ _ _ _ rfl inferInstance Tryz.underlying39 rfl (by kernel_rfl)) rfl ?_)
   refine fin_w (W:=W) (h:=h) (l:=[_,_,PoS V pb txg root (C - 140000*k) K0 wd,SlP 3 1 ia wd.snaps.length icap (idC wd.snaps),SlP 35 64 sa wd.snaps.length scap (ssC wd.snaps)]) ii λ w9 B9=>⟨_,.inr ⟨wd,ia,icap,sa,scap,o,rfl,rfl⟩,?_⟩
   have B10:=(B9.drop.drop).head (q:=PoS V pb txg root (C - 2000000) K0 wd) λ h=>PoS.less (by omega)
   exact (B10.app [_,_,_]).fin_at 0 rfl
end
end Go.Proofs.YtlfjdjndhcmliaaGreatDoor
