/- WholeGeoms, part 17. -/
import Derived.Test.YtlfjdjndhcmliaaGreatDoorA16
set_option maxRecDepth 100000
set_option maxHeartbeats 4000000
set_option linter.all false
namespace Go.Proofs.YtlfjdjndhcmliaaGreatDoor
open Go.RowKit Go.Sort
theorem cC_le:∀ {n:Nat},n<=3->cC n<=21
 | 0,_=>by decide
 | 1,_=>by decide
 | 2,_=>by decide
 | 3,_=>by decide
 | n+4,h=>by omega
section
variable {st:Nat} {S:KS->Nat->SP} (T:Sto st S)
include T
theorem truncate_tq (K:KS) (c:Nat) {z:Nat} {r0:Pt} {g0:Nat->UInt8} (o:Ob K ⟨z,r0⟩ g0) (m:Nat) (hm:m<=16384) (hc:30<=c) :
  Tq 97 #[stV st,.agg (Nd.mk z r0).cs,.int .i64 m] (S K c) (RN S K (c - 30) λ n' K'=>n'.size=m/\Ob K' n' (cutB g0 m)):=by
 refine Tq.of λ W h B=>?_
 rcases Nat.lt_or_ge m z with hlt | hge
 ·obtain ⟨⟨z0,z1⟩,t0,hz⟩:=o
  have z1:z<=16384:=by have:((z:Int))<=16384:=z1;omega
  obtain ⟨k0,hk0,hk3⟩:=lvl_nat z
  obtain ⟨d,hd,hd3⟩:=lvl_nat m
  have hdk:d<=k0:=by have:=lvl_mono (show (m:Int)<=z by omega);omega
  have t0:Tr K k0 r0 g0:=by have:(lvl z).toNat=k0:=(by omega);rw [<-this];exact t0
  have V0:∀ w,Fn 161 #[.int .i64 (z:Nat)] w (.int .i64 k0):=λ w=>by have e:=level_fn z w;rw [hk0] at e;exact e
  have V1:∀ w,Fn 161 #[.int .i64 (m:Nat)] w (.int .i64 d):=λ w=>by have e:=level_fn m w;rw [hd] at e;exact e
  have hsp:=lvl_span (show (m:Int)<=16384 by omega)
  rw [hd,Int.toNat_natCast] at hsp
  have Hsp:=Lib.hid hsp
  have Hd:=Lib.hid hd
  have L:=lowered_tq T K c t0 hk3 hdk
  have hcd:=cC_le hd3
  have hlt':¬ (z:Int)<=m:=by omega
  clear hz hk0 hd hsp
  go_enter Tryz.func97,Tryz.ntmps97
  go_upto_region 6 with (with_reducible refine Fn.go λ g=>?_)
  go_cut [9,10] (λ pv ev wx=>∃ (x:Nat) (p:Pt),pv=.pointer (some ⟨x,0,none⟩)/\ev=.int .i64 0/\Tr K d p g0/\Bt W h [BlkP x p.cs 50,BlkP (W.heap.size+1) Nd.none.cs 52,BlkP W.heap.size (Nd.mk z r0).cs 52,S K c] wx)
  case first =>
   (first | (with_reducible refine pl2 (.q [0,1,2,3,4] (.c 5 (.y 6 10 (.q [7,8] (.f [9] (.g 10 (.x [11] (.q [12] .d))))) (.x [6] (.q [7,8] (.f [9] (.x [11] (.q [12] .d)))))))) ?_) | refine pl1 (.q [0,1,2,3,4] (.c 5 (.y 6 10 (.q [7,8] (.f [9] (.g 10 (.x [11] (.q [12] .d))))) (.x [6] (.q [7,8] (.f [9] (.x [11] (.q [12] .d)))))))) ?_);simp only [Plan.run,pick,gZ,gS,gA,gN]
   (repeat (first | ((with_reducible apply wpQuiet_build_ix);(·exact rfl);go_frame) | ((with_reducible apply wpQuiet_build_nd);(·exact rfl);(·exact rfl);go_frame) | ((with_reducible apply wpQuiet_nilput);(·exact rfl);go_frame) | ((with_reducible apply wpQuiet_load);(·exact rfl);(·rintro _ ⟨gq,rfl⟩;exact ii);go_frame) | go_big_quiet_step (exact qZ)));refine nZ ?_
   (with_reducible apply cNode);(·kernel_rfl);(·rintro _ ⟨gC,rfl⟩;simp [Act.eval];exact inferInstance)
   refine ⟨?_,?_⟩
   ·rintro w2 hw2
    have B2:=btCls hw2
    clear hw2
    go_wp2_with fail
    refine (Bt.call L).mono ?_
    rintro e w3 ⟨v,q,rfl,⟨p,⟨rfl,rfl⟩,tp⟩,B3⟩
    dsimp only at B3 ⊢
    go_wp2_with fail
    dsimp only [Nx]
    (repeat go_big_quiet_step (exact qZ));refine nZ ?_
    (repeat go_big_quiet_step (exact qZ));refine nZ ?_
    rintro w4 hw4
    have B4:=btCls hw4
    go_wp2_with fail
    dsimp only [Nx]
    refine ⟨by obtain ⟨g,rfl⟩:=hw4;exact ⟨_,gr_alloc _ _ _⟩,?_⟩
    clear hw4
    rintro w5 hw5
    have B5:=btCls hw5
    clear hw5
    go_wp2_with fail
    dsimp only [Nx]
    (repeat go_big_quiet_step (exact qZ));refine nZ ?_
    rintro w6 hw6
    have B6:=btCls hw6
    clear hw6
    go_wp2_with fail
    go_meet
    exact ⟨_,p,rfl,rfl,tp,B6⟩
   ·rintro w2 hw2
    have B2:=btCls hw2
    go_wp2_with fail
    dsimp only [Nx]
    refine ⟨by obtain ⟨g,rfl⟩:=hw2;exact ⟨_,gr_alloc _ _ _⟩,?_⟩
    clear hw2
    rintro w3 hw3
    have B3:=btCls hw3
    clear hw3
    go_wp2_with fail
    refine (Bt.call L).mono ?_
    rintro e w4 ⟨v,q,rfl,⟨p,⟨rfl,rfl⟩,tp⟩,B4⟩
    dsimp only at B4 ⊢
    go_wp2_with fail
    dsimp only [Nx]
    (repeat go_big_quiet_step (exact qZ));refine nZ ?_
    (repeat go_big_quiet_step (exact qZ));refine nZ ?_
    rintro w5 hw5
    have B5:=btCls hw5
    clear hw5
    go_wp2_with fail
    dsimp only [Nx]
    (repeat go_big_quiet_step (exact qZ));refine nZ ?_
    rintro w6 hw6
    have B6:=btCls hw6
    clear hw6
    go_wp2_with fail
    go_meet
    exact ⟨_,p,rfl,rfl,tp,B6⟩
  case rest =>
   obtain ⟨x,p,rfl,rfl,tp,B⟩:=hcut
   have HC:∀ y:Int,y=((m+255) / 256:Nat)->_:=λ y hy=>cut_tq T d K c p g0 y tp hd3 (by omega) (by omega) (by omega)
   go_wp2_with fail
   (first | (with_reducible refine pl2 (.q [0,1,2,3,4,5,6,7] (.x [8] (.q [9,10] (.f [11] (.x [12] (.q [13] .d)))))) ?_) | refine pl1 (.q [0,1,2,3,4,5,6,7] (.x [8] (.q [9,10] (.f [11] (.x [12] (.q [13] .d)))))) ?_);simp only [Plan.run,pick,gZ,gS,gA,gN]
   (try go_frame)
   (repeat (first | ((with_reducible apply wpQuiet_build_ix);(·exact rfl);go_frame) | ((with_reducible apply wpQuiet_build_nd);(·exact rfl);(·exact rfl);go_frame) | ((with_reducible apply wpQuiet_nilput);(·exact rfl);go_frame) | ((with_reducible apply wpQuiet_load);(·exact rfl);(·rintro _ ⟨gq,rfl⟩;exact ii);go_frame) | go_big_quiet_step (exact qZ)));refine nZ ?_
   rintro w2 hw2
   have B2:=btCls hw2
   clear hw2
   go_wp2_with fail
   refine (Bt.call (HC _ (by omega))).mono ?_
   rintro e w3 ⟨v,q,rfl,hR,B3⟩
   dsimp only at B3 ⊢
   rcases hR with ⟨e,he,rfl,rfl⟩ | ⟨p1,K1,rfl,rfl,hK1,t1⟩
   ·go_wp2_with fail
    dsimp only [Nx]
    (repeat go_big_quiet_step (exact qZ));refine nZ ?_
    (repeat go_big_quiet_step (exact qZ));refine nZ ?_
    refine btI ?_;intro w2 B2;go_wp2_with (with_reducible apply wpList_build0);dsimp only [Nx];(repeat go_big_quiet_step (exact qZ));refine nZ ?_;(first | (rintro w3 hw3;have B3:=btCls hw3;clear hw3) | rintro g3);go_wp2_with (with_reducible apply wpList_build0)
    (refine bodyPost_ret (rc13 rfl _ _ _ _ rfl ii) rfl ?_)
    (first | apply fin_a | apply fin_b)
    exact ⟨.inl ⟨e,he,rfl,rfl⟩,(Bt.fin (p:=S K (c - cC d))).mono λ h q=>T.less _ _ _ (by omega) h q⟩
   ·have o1:ObW K1 ⟨m,p1⟩ (cutB g0 (256*(((m+255) / 256:Nat):Int))):=by
     refine ⟨by dsimp only;omega,?_,λ j hj=>if_neg ?_⟩
     ·dsimp only
      rw [Hd.out,Int.toNat_natCast]
      first | exact t1 | exact t1.congr λ j hj=>by congr 1;omega
     ·have h1:=Hsp.out
      dsimp only at hj
      rw [Hd.out,Int.toNat_natCast] at hj
      unfold span at *
      omega
    have P:=trimmed_tq T K1 (c - cC d) o1 (λ j hj=>if_neg (by omega)) (by omega)
    clear t1 o1
    go_wp2_with fail
    dsimp only [Nx]
    (repeat go_big_quiet_step (exact qZ));refine nZ ?_
    (repeat go_big_quiet_step (exact qZ));refine nZ ?_
    refine btI ?_;intro w2 B2;go_wp2_with (first | ((with_reducible apply wpList_load);(·exact rfl);(·exact ii)) | ((with_reducible apply wpList_build_nd);(·exact rfl);(·exact rfl)));dsimp only [Nx];(repeat go_big_quiet_step (exact qZ));refine nZ ?_;(first | (rintro w3 hw3;have B3:=btCls hw3;clear hw3) | rintro g3);go_wp2_with (first | ((with_reducible apply wpList_load);(·exact rfl);(·exact ii)) | ((with_reducible apply wpList_build_nd);(·exact rfl);(·exact rfl)))
    refine (Bt.call P).mono ?_
    rintro e w6 ⟨v,q,rfl,hR,B6⟩
    dsimp only at B6 ⊢
    rcases hR with ⟨e,he,rfl,rfl⟩ | ⟨p2,K2,rfl,rfl,hK2,hz2,o2⟩
    ·go_wp2_with fail
     (refine bodyPost_ret (rc13 rfl _ _ _ _ rfl ii) rfl ?_)
     (first | apply fin_a | apply fin_b)
     exact ⟨.inl ⟨e,he,rfl,rfl⟩,(Bt.fin (p:=S K1 (c - cC d - 4))).mono λ h q=>T.sub _ _ _ hK1 h (T.less _ _ _ (by omega) h q)⟩
    ·have O2:=Lib.hid (And.intro hz2 o2)
     clear o2 hz2
     go_wp2_with fail
     (refine bodyPost_ret (rc13 rfl _ _ _ _ rfl ii) rfl ?_)
     (first | apply fin_a | apply fin_b)
     refine ⟨.inr ⟨p2,K2,rfl,rfl,hK1.trans hK2,O2.out.1,O2.out.2.congr λ j=>?_⟩,(Bt.fin (p:=S K2 (c - cC d - 4))).mono λ h q=>T.less _ _ _ (by omega) h q⟩
     unfold cutB
     split
     ·rw [if_pos (by omega)]
     ·rfl
 ·have G:=grown_tq T K c o m hm (by omega)
  have hz:=o.z
  have hmx:(max z m:Nat)=m:=by omega
  rw [hmx] at G
  have hge':(z:Int)<=m:=by omega
  go_enter Tryz.func97,Tryz.ntmps97
  go_wp2_with ((with_reducible apply wpList_load);(·exact rfl);(·exact ii))
  refine (Bt.call G).mono ?_
  rintro e w1 ⟨v,q,rfl,hR,B1⟩
  dsimp only at B1 ⊢
  rcases hR with ⟨e,he,rfl,rfl⟩ | ⟨p1,K1,rfl,rfl,hK1,hz1,o1⟩
  ·go_wp2_with fail
   (refine bodyPost_ret (rc13 rfl _ _ _ _ rfl ii) rfl ?_)
   (first | apply fin_a | apply fin_b)
   exact ⟨.inl ⟨e,he,rfl,rfl⟩,(Bt.fin (p:=S K (c - 3))).mono λ h q=>T.less _ _ _ (by omega) h q⟩
  ·have O1:=Lib.hid (And.intro hz1 o1)
   clear o1 hz1
   go_wp2_with fail
   (refine bodyPost_ret (rc13 rfl _ _ _ _ rfl ii) rfl ?_)
   (first | apply fin_a | apply fin_b)
   refine ⟨.inr ⟨p1,K1,rfl,rfl,hK1,O1.out.1,O1.out.2.congr λ j=>?_⟩,(Bt.fin (p:=S K1 (c - 3))).mono λ h q=>T.less _ _ _ (by omega) h q⟩
   unfold cutB
   split
   ·rfl
   ·exact (hz j (by show (z:Int)<=j;omega)).symm
end
end Go.Proofs.YtlfjdjndhcmliaaGreatDoor
