/- WholeGeoms, part 15. -/
import Derived.Test.YtlfjdjndhcmliaaGreatDoorA13
set_option maxRecDepth 100000
set_option maxHeartbeats 4000000
set_option linter.all false
namespace Go.Proofs.YtlfjdjndhcmliaaGreatDoor
open Go.RowKit Go.Sort
section
variable {st:Nat} {S:KS->Nat->SP} (T:Sto st S)
include T
theorem lowered_tq (K:KS) (c:Nat) {n0 d:Nat} {p0:Pt} {g0:Nat->UInt8} (t0:Tr K n0 p0 g0) (hn0:n0<=3) (hto:d<=n0):Tq 162 #[stV st,.agg p0.cs,.int .i64 n0,.int .i64 d] (S K c) λ v q=>∃ p:Pt,(v=.tuple #[.agg p.cs,.int .i64 0]/\q=S K c)/\Tr K d p g0:=by
 refine Tq.of λ W h B=>?_
 go_enter Tryz.func162,Tryz.ntmps162
 go_wp2_with fail
 go_loopw [2] (λ lv wr=>∃ (n:Nat) (p:Pt),n<=3/\d<=n/\lv=.int .i64 n/\Tr K n p g0/\Bt W h [BlkP (W.heap.size+1) Pt.none.cs 50,BlkP W.heap.size p.cs 50,S K c] wr)
  (λ lv _=>(intOf lv).toNat)
 case atStart=>exact ⟨n0,p0,hn0,hto,rfl,t0,ii⟩
 case round =>
  clear B
  obtain ⟨n,p,hn,ht,rfl,t,B⟩:=hrel
  rcases Nat.lt_or_ge d n with hlt | hge
  ·obtain ⟨n,rfl⟩:∃ m,n=m+1:=⟨n - 1,by omega⟩
   cases hp:p.isNone
   ·have L:=links_tq T K c t (by omega)
    have HN:∀ w,Fn 169 #[.agg p.cs] w (.bool false):=λ w=>by have e:=none_fn p w;rw [hp] at e;exact e
    have hlt':(d:Int) < (n:Int)+1:=by omega
    clear hp
    go_wp2_with (first | (with_reducible refine Fn.go λ g=>?_) | ((with_reducible apply wpList_load);(·exact rfl);(·exact ii)) | ((with_reducible apply wpList_loadg);(·exact rfl);(·exact rfl);(·exact ii)))
    refine (Bt.call L).mono ?_
    rintro e w1 ⟨v,q,rfl,⟨l,⟨rfl,rfl⟩,hf,_,hl⟩,B1⟩
    dsimp only at B1 ⊢
    go_wp2_with ((with_reducible apply wpList_load);(·exact rfl);(·exact ii))
    exact ⟨⟨n,l 0,by omega,by omega,by go_num,Tr.down hl,Bt.drop ii⟩,by simp [intOf]⟩
   ·obtain rfl:=(Pt.isNone_iff p).1 hp
    have hlt':(d:Int) < (n:Int)+1:=by omega
    clear hp
    go_wp2_with (first | (with_reducible refine Fn.go λ g=>?_) | ((with_reducible apply wpList_load);(·exact rfl);(·exact ii)) | ((with_reducible apply wpList_loadg);(·exact rfl);(·exact rfl);(·exact ii)))
    (refine bodyPost_ret (rc12 rfl _ _ _ _ rfl ii) rfl ?_)
    exact ⟨_,_,rfl,⟨Pt.none,⟨rfl,rfl⟩,Tr.zero K λ j hj=>t.zeros j (by have:=bl_le (show d<=n+1 by omega);unfold span at *;omega)⟩,Bt.fin⟩
  ·obtain rfl:d=n:=by omega
   go_wp2_with ((with_reducible apply wpList_load);(·exact rfl);(·exact ii))
   (refine bodyPost_ret (rc12 rfl _ _ _ _ rfl ii) rfl ?_)
   exact ⟨_,_,rfl,⟨p,⟨rfl,rfl⟩,t⟩,Bt.fin⟩
end
def cC:Nat->Nat
 | 0=>0
 | n+1=>1+4*cC n
theorem cutB_sub (g:Nat->UInt8) (m:Int) (n k j:Nat):cutB g (256*m) (span n*k+j)=cutB (λ j=>g (span n*k+j)) (256*(m - (k:Int)*(bl n:Nat))) j:=by
 unfold cutB
 have e:((span n*k+j:Nat):Int)=256*((k:Int)*(bl n:Nat))+j:=by
  unfold span
  rw [Nat.mul_assoc,Nat.mul_comm (bl n) k]
  simp only [Int.natCast_add,Int.natCast_mul]
  rfl
 have e2:(((span n*k+j:Nat):Int) < 256*m) ↔ ((j:Int) < 256*(m - (k:Int)*(bl n:Nat))):=by rw [e];omega
 by_cases h:((span n*k+j:Nat):Int) < 256*m
 ·rw [if_pos h,if_pos (e2.1 h)]
 ·rw [if_neg h,if_neg λ h2=>h (e2.2 h2)]
theorem fit4_upd {l:Nat->Pt} {k:Nat} {p:Pt} (hf:Fit4 l) (hp:p.isNone=true):Fit4 (upd l k p):=by
 refine ⟨λ j=>?_⟩
 by_cases e:j=k
 ·subst e
  rw [show upd l j p j=p from if_pos rfl,(Pt.isNone_iff p).1 hp]
  exact fit4_none.h 0
 ·rw [show upd l k p j=l j from if_neg e]
  exact hf.h j
theorem span_split {n j:Nat} (hj:j < span (n+1)):∃ k,k < 4/\∃ i,i < span n/\j=span n*k+i:=by
 have hp:0 < span n:=by have:=bl_pos n;unfold span;omega
 have e:span (n+1)=span n*4:=by unfold span;simp only [bl];omega
 exact ⟨j / span n,Nat.div_lt_of_lt_mul (by rw [<-e];exact hj),j % span n,Nat.mod_lt _ hp,(Nat.div_add_mod j (span n)).symm⟩
section
variable {st:Nat} {S:KS->Nat->SP} (T:Sto st S)
include T
theorem cut_tq:∀ (n:Nat) (K:KS) (c:Nat) (p:Pt) (g:Nat->UInt8) (m:Int),Tr K n p g->n<=3->-(64+64*(3 - (n:Int)))<=m->m<=64->cC n<=c ->
  Tq 163 #[stV st,.agg p.cs,.int .i64 (n:Nat),.int .i64 m] (S K c) (RP S K (c - cC n) λ p' K'=>Tr K' n p' (cutB g (256*m))):=by
 intro n
 induction n with
 | zero =>
  intro K c p g m t hn hm hm2 hc
  refine Tq.of λ W h B=>?_
  have hb:∀ (q:Prop) [Decidable q],q->decide q=true:=λ q _ h=>decide_eq_true h
  by_cases h0:m<=0
  ·go_enter Tryz.func163,Tryz.ntmps163
   go_wp2_with (with_reducible apply wpList_build0)
   (refine bodyPost_ret (rc12 rfl _ _ _ _ rfl ii) rfl ?_)
   exact ⟨_,_,rfl,.inr ⟨Pt.none,K,rfl,rfl,KS.le.refl K,Tr.zero K λ j hj=>if_neg (by omega)⟩,(Bt.fin (p:=S K c)).mono λ h q=>T.less _ _ _ (by omega) h q⟩
  ·cases hp:p.isNone
   ·have HN:∀ w,Fn 169 #[.agg p.cs] w (.bool false):=λ w=>by have e:=none_fn p w;rw [hp] at e;exact e
    clear hp
    go_enter Tryz.func163,Tryz.ntmps163
    go_wp2_with (first | (with_reducible refine Fn.go λ g=>?_) | ((with_reducible apply wpList_load);(·exact rfl);(·exact ii)) | ((with_reducible apply wpList_loadg);(·exact rfl);(·exact rfl);(·exact ii)))
    (refine bodyPost_ret (rc12 rfl _ _ _ _ rfl ii) rfl ?_)
    exact ⟨_,_,rfl,.inr ⟨p,K,rfl,rfl,KS.le.refl K,t.congr λ j hj=>if_pos (by have hj:j < 256:=hj;omega)⟩,(Bt.fin (p:=S K c)).mono λ h q=>T.less _ _ _ (by omega) h q⟩
   ·obtain rfl:=(Pt.isNone_iff p).1 hp
    clear hp
    go_enter Tryz.func163,Tryz.ntmps163
    go_wp2_with (first | (with_reducible refine Fn.go λ g=>?_) | ((with_reducible apply wpList_loadg);(·exact rfl);(·exact rfl);(·exact ii)) | (with_reducible apply wpList_build0))
    (refine bodyPost_ret (rc12 rfl _ _ _ _ rfl ii) rfl ?_)
    exact ⟨_,_,rfl,.inr ⟨Pt.none,K,rfl,rfl,KS.le.refl K,t.congr λ j hj=>by rw [t.zeros j hj];unfold cutB;split;exact t.zeros j hj;rfl⟩,(Bt.fin (p:=S K c)).mono λ h q=>T.less _ _ _ (by omega) h q⟩
 | succ n ih =>
  intro K c p gg m t hn hm hm2 hc
  have hcC:cC (n+1)=1+4*cC n:=rfl
  have hbp:=bl_pos n
  have hbl:bl n<=16:=bl_le (show n<=2 by omega)
  have BL:=below_fn ((n:Int)+1) n rfl (by omega)
  have BL2:=below_fn ((n:Int)+1+1) (n+1) (by omega) (by omega)
  have e0:((n:Int)+1 == 0)=false:=by rw [beq_eq_false_iff_ne];omega
  refine Tq.of λ W h B=>?_
  by_cases h0:m<=0
  ·go_enter Tryz.func163,Tryz.ntmps163
   go_wp2_with (with_reducible apply wpList_build0)
   (refine bodyPost_ret (rc12 rfl _ _ _ _ rfl ii) rfl ?_)
   exact ⟨_,_,rfl,.inr ⟨Pt.none,K,rfl,rfl,KS.le.refl K,Tr.zero K λ j hj=>if_neg (by omega)⟩,(Bt.fin (p:=S K c)).mono λ h q=>T.less _ _ _ (by omega) h q⟩
  cases hp:p.isNone
  rotate_left
  ·obtain rfl:=(Pt.isNone_iff p).1 hp
   clear hp
   go_enter Tryz.func163,Tryz.ntmps163
   go_wp2_with (first | (with_reducible refine Fn.go λ g=>?_) | ((with_reducible apply wpList_loadg);(·exact rfl);(·exact rfl);(·exact ii)) | (with_reducible apply wpList_build0))
   (refine bodyPost_ret (rc12 rfl _ _ _ _ rfl ii) rfl ?_)
   exact ⟨_,_,rfl,.inr ⟨Pt.none,K,rfl,rfl,KS.le.refl K,t.congr λ j hj=>by rw [t.zeros j hj];unfold cutB;split;exact t.zeros j hj;rfl⟩,(Bt.fin (p:=S K c)).mono λ h q=>T.less _ _ _ (by omega) h q⟩
  have HN:∀ w,Fn 169 #[.agg p.cs] w (.bool false):=λ w=>by have e:=none_fn p w;rw [hp] at e;exact e
  by_cases h1:(bl (n+1):Int)<=m
  ·clear hp
   go_enter Tryz.func163,Tryz.ntmps163
   go_wp2_with (first | (with_reducible refine Fn.go λ g=>?_) | ((with_reducible apply wpList_load);(·exact rfl);(·exact ii)) | ((with_reducible apply wpList_loadg);(·exact rfl);(·exact rfl);(·exact ii)))
   (refine bodyPost_ret (rc12 rfl _ _ _ _ rfl ii) rfl ?_)
   exact ⟨_,_,rfl,.inr ⟨p,K,rfl,rfl,KS.le.refl K,t.congr λ j hj=>if_pos (by unfold span at hj;omega)⟩,(Bt.fin (p:=S K c)).mono λ h q=>T.less _ _ _ (by omega) h q⟩
  have L:=links_tq T K c t (by omega)
  have Hp:=Lib.hid hp
  clear hp
  go_enter Tryz.func163,Tryz.ntmps163
  go_wp2_with (first | (with_reducible refine Fn.go λ g=>?_) | ((with_reducible apply wpList_load);(·exact rfl);(·exact ii)) | ((with_reducible apply wpList_loadg);(·exact rfl);(·exact rfl);(·exact ii)))
  refine (Bt.call L).mono ?_
  rintro e w1 ⟨v,q,rfl,⟨l,⟨rfl,rfl⟩,hf,⟨_,hx⟩,hl⟩,B1⟩
  dsimp only at B1 ⊢
  have Hx:=Lib.hid (hx Hp.out)
  clear hx
  go_wp2_with ((with_reducible apply wpList_load);(·exact rfl);(·exact ii))
  go_loopw [44] (λ i wr=>∃ (k:Nat) (l':Nat->Pt) (K1:KS),k<=4/\i=.int .i64 k/\K.le K1/\(∀ j,j < k->Tr K1 n (l' j) (cutB (λ x=>gg (span n*j+x)) (256*(m - (j:Int)*(bl n:Nat)))))/\(∀ j,k<=j->l' j=l j)/\Fit4 l'/\Bt W h [BlkP (w1.heap.size+1) (cs4 l) 265,BlkP w1.heap.size (cs4 l') 265,BlkP (W.heap.size+1) Pt.none.cs 50,BlkP W.heap.size p.cs 50,S K1 (c - k*cC n)] wr)
   (λ i _=>4 - (intOf i).toNat)
  case atStart=>exact ⟨0,l,K,by omega,rfl,KS.le.refl K,λ j hj=>by omega,λ j _=>rfl,hf,by rw [Nat.zero_mul,Nat.sub_zero];infer_instance⟩
  case round =>
   clear B B1
   obtain ⟨k,l',K1,hk,rfl,hK,hlt',hge,hf',B⟩:=hrel
   by_cases hk4:k < 4
   ·rcases (show k=0\/k=1\/k=2\/k=3 by omega) with rfl | rfl | rfl | rfl
    ·have IH:∀ x:Int,x=m - (0:Int)*(bl n:Nat)->_:=λ x hx=>ih K1 (c - 0*cC n) (l' 0) (λ y=>gg (span n*0+y)) x (by rw [hge 0 (by omega)];exact (hl 0 (by omega)).mono hK) (by omega) (by omega) (by omega) (by have:cC (n+1)=1+4*cC n:=rfl;omega)
     have Hge:=Lib.hid hge
     have Hlt:=Lib.hid hlt'
     clear hge hlt'
     go_wp2_with fail
     (first | (with_reducible refine pl2 (.q [1,2,3,4,5,6,7,8,9,10,11,12] (.f [0] (.x [13] (.q [14,15,17] (.f [16] (.x [18] (.q [19] .d))))))) ?_) | refine pl1 (.q [1,2,3,4,5,6,7,8,9,10,11,12] (.f [0] (.x [13] (.q [14,15,17] (.f [16] (.x [18] (.q [19] .d))))))) ?_);simp only [Plan.run,pick,gZ,gS,gA,gN]
     (try go_frame)
     (repeat (first | ((with_reducible apply wpQuiet_build_ix);(·exact rfl);go_frame) | ((with_reducible apply wpQuiet_build_nd);(·exact rfl);(·exact rfl);go_frame) | ((with_reducible apply wpQuiet_nilput);(·exact rfl);go_frame) | ((with_reducible apply wpQuiet_load);(·exact rfl);(·rintro _ ⟨gq,rfl⟩;exact ii);go_frame) | go_big_quiet_step (exact qZ)));refine nZ ?_
     (repeat (first | ((with_reducible apply wpQuiet_build_ix);(·exact rfl);go_frame) | ((with_reducible apply wpQuiet_build_nd);(·exact rfl);(·exact rfl);go_frame) | ((with_reducible apply wpQuiet_nilput);(·exact rfl);go_frame) | ((with_reducible apply wpQuiet_load);(·exact rfl);(·rintro _ ⟨gq,rfl⟩;exact ii);go_frame) | go_big_quiet_step (exact qZ)));refine nZ ?_
     rintro w2 hw2
     have B2:=btCls hw2
     clear hw2
     go_wp2_with fail
     refine (Bt.call (IH _ (by omega))).mono ?_
     rintro e w3 ⟨v,q,rfl,hR,B3⟩
     dsimp only at B3 ⊢
     rcases hR with ⟨e,he,rfl,rfl⟩ | ⟨p',K2,rfl,rfl,hK2,tp⟩
     ·go_wp2_with fail
      dsimp only [Nx]
      (repeat go_big_quiet_step (exact qZ));refine nZ ?_
      (repeat go_big_quiet_step (exact qZ));refine nZ ?_
      refine btI ?_;intro w2 B2;go_wp2_with (first | ((with_reducible apply wpList_store);(·exact rfl);(·exact rfl);(·exact ii)) | (with_reducible apply wpList_build0));dsimp only [Nx];(repeat go_big_quiet_step (exact qZ));refine nZ ?_;(first | (rintro w3 hw3;have B3:=btCls hw3;clear hw3) | rintro g3);go_wp2_with (first | ((with_reducible apply wpList_store);(·exact rfl);(·exact rfl);(·exact ii)) | (with_reducible apply wpList_build0))
      (refine bodyPost_ret (rc12 rfl _ _ _ _ rfl ii) rfl ?_)
      exact ⟨_,_,rfl,.inl ⟨e,he,rfl,rfl⟩,(Bt.fin (p:=S K1 (c - 0*cC n - cC n))).mono λ h q=>T.sub _ _ _ hK h (T.less _ _ _ (by have:cC (n+1)=1+4*cC n:=rfl;omega) h q)⟩
     ·have hF:Fit4 (upd l' 0 p'):=by
       cases hp':p'.isNone
       ·exact T.fit4 (w:=w3) (K:=K2) (c:=c - 0*cC n - cC n) hf' tp hp'
       ·exact fit4_upd hf' hp'
      have Tp:=Lib.hid tp
      clear tp
      go_wp2_with fail
      dsimp only [Nx]
      (repeat go_big_quiet_step (exact qZ));refine nZ ?_
      (repeat go_big_quiet_step (exact qZ));refine nZ ?_
      refine btI ?_;intro w2 B2;go_wp2_with ((with_reducible apply wpList_store);(·exact rfl);(·exact rfl);(·exact ii));dsimp only [Nx];(repeat go_big_quiet_step (exact qZ));refine nZ ?_;(first | (rintro w3 hw3;have B3:=btCls hw3;clear hw3) | rintro g3);go_wp2_with ((with_reducible apply wpList_store);(·exact rfl);(·exact rfl);(·exact ii))
      refine ⟨⟨0+1,upd l' 0 p',K2,by omega,rfl,hK.trans hK2,λ j hj=>?_,λ j hj=>?_,hF,?_⟩,by simp [intOf]⟩
      ·by_cases e:j=0
       ·subst e
        rw [show upd l' 0 p' 0=p' from if_pos rfl]
        have tp:=Tp.out
        first | exact tp | (refine tp.congr λ j hj=>?_;congr 1;omega)
       ·rw [show upd l' 0 p' j=l' j from if_neg e]
        exact (Hlt.out j (by omega)).mono hK2
      ·rw [show upd l' 0 p' j=l' j from if_neg (by omega)]
       exact Hge.out j (by omega)
      ·rw [show c - (0+1)*cC n=c - 0*cC n - cC n by omega]
       infer_instance
    ·have IH:∀ x:Int,x=m - (1:Int)*(bl n:Nat)->_:=λ x hx=>ih K1 (c - 1*cC n) (l' 1) (λ y=>gg (span n*1+y)) x (by rw [hge 1 (by omega)];exact (hl 1 (by omega)).mono hK) (by omega) (by omega) (by omega) (by have:cC (n+1)=1+4*cC n:=rfl;omega)
     have Hge:=Lib.hid hge
     have Hlt:=Lib.hid hlt'
     clear hge hlt'
     go_wp2_with fail
     (first | (with_reducible refine pl2 (.q [1,2,3,4,5,6,7,8,9,10,11,12] (.f [0] (.x [13] (.q [14,15,17] (.f [16] (.x [18] (.q [19] .d))))))) ?_) | refine pl1 (.q [1,2,3,4,5,6,7,8,9,10,11,12] (.f [0] (.x [13] (.q [14,15,17] (.f [16] (.x [18] (.q [19] .d))))))) ?_);simp only [Plan.run,pick,gZ,gS,gA,gN]
     (try go_frame)
     (repeat (first | ((with_reducible apply wpQuiet_build_ix);(·exact rfl);go_frame) | ((with_reducible apply wpQuiet_build_nd);(·exact rfl);(·exact rfl);go_frame) | ((with_reducible apply wpQuiet_nilput);(·exact rfl);go_frame) | ((with_reducible apply wpQuiet_load);(·exact rfl);(·rintro _ ⟨gq,rfl⟩;exact ii);go_frame) | go_big_quiet_step (exact qZ)));refine nZ ?_
     (repeat (first | ((with_reducible apply wpQuiet_build_ix);(·exact rfl);go_frame) | ((with_reducible apply wpQuiet_build_nd);(·exact rfl);(·exact rfl);go_frame) | ((with_reducible apply wpQuiet_nilput);(·exact rfl);go_frame) | ((with_reducible apply wpQuiet_load);(·exact rfl);(·rintro _ ⟨gq,rfl⟩;exact ii);go_frame) | go_big_quiet_step (exact qZ)));refine nZ ?_
     rintro w2 hw2
     have B2:=btCls hw2
     clear hw2
     go_wp2_with fail
     refine (Bt.call (IH _ (by omega))).mono ?_
     rintro e w3 ⟨v,q,rfl,hR,B3⟩
     dsimp only at B3 ⊢
     rcases hR with ⟨e,he,rfl,rfl⟩ | ⟨p',K2,rfl,rfl,hK2,tp⟩
     ·go_wp2_with fail
      dsimp only [Nx]
      (repeat go_big_quiet_step (exact qZ));refine nZ ?_
      (repeat go_big_quiet_step (exact qZ));refine nZ ?_
      refine btI ?_;intro w2 B2;go_wp2_with (first | ((with_reducible apply wpList_store);(·exact rfl);(·exact rfl);(·exact ii)) | (with_reducible apply wpList_build0));dsimp only [Nx];(repeat go_big_quiet_step (exact qZ));refine nZ ?_;(first | (rintro w3 hw3;have B3:=btCls hw3;clear hw3) | rintro g3);go_wp2_with (first | ((with_reducible apply wpList_store);(·exact rfl);(·exact rfl);(·exact ii)) | (with_reducible apply wpList_build0))
      (refine bodyPost_ret (rc12 rfl _ _ _ _ rfl ii) rfl ?_)
      exact ⟨_,_,rfl,.inl ⟨e,he,rfl,rfl⟩,(Bt.fin (p:=S K1 (c - 1*cC n - cC n))).mono λ h q=>T.sub _ _ _ hK h (T.less _ _ _ (by have:cC (n+1)=1+4*cC n:=rfl;omega) h q)⟩
     ·have hF:Fit4 (upd l' 1 p'):=by
       cases hp':p'.isNone
       ·exact T.fit4 (w:=w3) (K:=K2) (c:=c - 1*cC n - cC n) hf' tp hp'
       ·exact fit4_upd hf' hp'
      have Tp:=Lib.hid tp
      clear tp
      go_wp2_with fail
      dsimp only [Nx]
      (repeat go_big_quiet_step (exact qZ));refine nZ ?_
      (repeat go_big_quiet_step (exact qZ));refine nZ ?_
      refine btI ?_;intro w2 B2;go_wp2_with ((with_reducible apply wpList_store);(·exact rfl);(·exact rfl);(·exact ii));dsimp only [Nx];(repeat go_big_quiet_step (exact qZ));refine nZ ?_;(first | (rintro w3 hw3;have B3:=btCls hw3;clear hw3) | rintro g3);go_wp2_with ((with_reducible apply wpList_store);(·exact rfl);(·exact rfl);(·exact ii))
      refine ⟨⟨1+1,upd l' 1 p',K2,by omega,rfl,hK.trans hK2,λ j hj=>?_,λ j hj=>?_,hF,?_⟩,by simp [intOf]⟩
      ·by_cases e:j=1
       ·subst e
        rw [show upd l' 1 p' 1=p' from if_pos rfl]
        have tp:=Tp.out
        first | exact tp | (refine tp.congr λ j hj=>?_;congr 1;omega)
       ·rw [show upd l' 1 p' j=l' j from if_neg e]
        exact (Hlt.out j (by omega)).mono hK2
      ·rw [show upd l' 1 p' j=l' j from if_neg (by omega)]
       exact Hge.out j (by omega)
      ·rw [show c - (1+1)*cC n=c - 1*cC n - cC n by omega]
       infer_instance
    ·have IH:∀ x:Int,x=m - (2:Int)*(bl n:Nat)->_:=λ x hx=>ih K1 (c - 2*cC n) (l' 2) (λ y=>gg (span n*2+y)) x (by rw [hge 2 (by omega)];exact (hl 2 (by omega)).mono hK) (by omega) (by omega) (by omega) (by have:cC (n+1)=1+4*cC n:=rfl;omega)
     have Hge:=Lib.hid hge
     have Hlt:=Lib.hid hlt'
     clear hge hlt'
     go_wp2_with fail
     (first | (with_reducible refine pl2 (.q [1,2,3,4,5,6,7,8,9,10,11,12] (.f [0] (.x [13] (.q [14,15,17] (.f [16] (.x [18] (.q [19] .d))))))) ?_) | refine pl1 (.q [1,2,3,4,5,6,7,8,9,10,11,12] (.f [0] (.x [13] (.q [14,15,17] (.f [16] (.x [18] (.q [19] .d))))))) ?_);simp only [Plan.run,pick,gZ,gS,gA,gN]
     (try go_frame)
     (repeat (first | ((with_reducible apply wpQuiet_build_ix);(·exact rfl);go_frame) | ((with_reducible apply wpQuiet_build_nd);(·exact rfl);(·exact rfl);go_frame) | ((with_reducible apply wpQuiet_nilput);(·exact rfl);go_frame) | ((with_reducible apply wpQuiet_load);(·exact rfl);(·rintro _ ⟨gq,rfl⟩;exact ii);go_frame) | go_big_quiet_step (exact qZ)));refine nZ ?_
     (repeat (first | ((with_reducible apply wpQuiet_build_ix);(·exact rfl);go_frame) | ((with_reducible apply wpQuiet_build_nd);(·exact rfl);(·exact rfl);go_frame) | ((with_reducible apply wpQuiet_nilput);(·exact rfl);go_frame) | ((with_reducible apply wpQuiet_load);(·exact rfl);(·rintro _ ⟨gq,rfl⟩;exact ii);go_frame) | go_big_quiet_step (exact qZ)));refine nZ ?_
     rintro w2 hw2
     have B2:=btCls hw2
     clear hw2
     go_wp2_with fail
     refine (Bt.call (IH _ (by omega))).mono ?_
     rintro e w3 ⟨v,q,rfl,hR,B3⟩
     dsimp only at B3 ⊢
     rcases hR with ⟨e,he,rfl,rfl⟩ | ⟨p',K2,rfl,rfl,hK2,tp⟩
     ·go_wp2_with fail
      dsimp only [Nx]
      (repeat go_big_quiet_step (exact qZ));refine nZ ?_
      (repeat go_big_quiet_step (exact qZ));refine nZ ?_
      refine btI ?_;intro w2 B2;go_wp2_with (first | ((with_reducible apply wpList_store);(·exact rfl);(·exact rfl);(·exact ii)) | (with_reducible apply wpList_build0));dsimp only [Nx];(repeat go_big_quiet_step (exact qZ));refine nZ ?_;(first | (rintro w3 hw3;have B3:=btCls hw3;clear hw3) | rintro g3);go_wp2_with (first | ((with_reducible apply wpList_store);(·exact rfl);(·exact rfl);(·exact ii)) | (with_reducible apply wpList_build0))
      (refine bodyPost_ret (rc12 rfl _ _ _ _ rfl ii) rfl ?_)
      exact ⟨_,_,rfl,.inl ⟨e,he,rfl,rfl⟩,(Bt.fin (p:=S K1 (c - 2*cC n - cC n))).mono λ h q=>T.sub _ _ _ hK h (T.less _ _ _ (by have:cC (n+1)=1+4*cC n:=rfl;omega) h q)⟩
     ·have hF:Fit4 (upd l' 2 p'):=by
       cases hp':p'.isNone
       ·exact T.fit4 (w:=w3) (K:=K2) (c:=c - 2*cC n - cC n) hf' tp hp'
       ·exact fit4_upd hf' hp'
      have Tp:=Lib.hid tp
      clear tp
      go_wp2_with fail
      dsimp only [Nx]
      (repeat go_big_quiet_step (exact qZ));refine nZ ?_
      (repeat go_big_quiet_step (exact qZ));refine nZ ?_
      refine btI ?_;intro w2 B2;go_wp2_with ((with_reducible apply wpList_store);(·exact rfl);(·exact rfl);(·exact ii));dsimp only [Nx];(repeat go_big_quiet_step (exact qZ));refine nZ ?_;(first | (rintro w3 hw3;have B3:=btCls hw3;clear hw3) | rintro g3);go_wp2_with ((with_reducible apply wpList_store);(·exact rfl);(·exact rfl);(·exact ii))
      refine ⟨⟨2+1,upd l' 2 p',K2,by omega,rfl,hK.trans hK2,λ j hj=>?_,λ j hj=>?_,hF,?_⟩,by simp [intOf]⟩
      ·by_cases e:j=2
       ·subst e
        rw [show upd l' 2 p' 2=p' from if_pos rfl]
        have tp:=Tp.out
        first | exact tp | (refine tp.congr λ j hj=>?_;congr 1;omega)
       ·rw [show upd l' 2 p' j=l' j from if_neg e]
        exact (Hlt.out j (by omega)).mono hK2
      ·rw [show upd l' 2 p' j=l' j from if_neg (by omega)]
       exact Hge.out j (by omega)
      ·rw [show c - (2+1)*cC n=c - 2*cC n - cC n by omega]
       infer_instance
    ·have IH:∀ x:Int,x=m - (3:Int)*(bl n:Nat)->_:=λ x hx=>ih K1 (c - 3*cC n) (l' 3) (λ y=>gg (span n*3+y)) x (by rw [hge 3 (by omega)];exact (hl 3 (by omega)).mono hK) (by omega) (by omega) (by omega) (by have:cC (n+1)=1+4*cC n:=rfl;omega)
     have Hge:=Lib.hid hge
     have Hlt:=Lib.hid hlt'
     clear hge hlt'
     go_wp2_with fail
     (first | (with_reducible refine pl2 (.q [1,2,3,4,5,6,7,8,9,10,11,12] (.f [0] (.x [13] (.q [14,15,17] (.f [16] (.x [18] (.q [19] .d))))))) ?_) | refine pl1 (.q [1,2,3,4,5,6,7,8,9,10,11,12] (.f [0] (.x [13] (.q [14,15,17] (.f [16] (.x [18] (.q [19] .d))))))) ?_);simp only [Plan.run,pick,gZ,gS,gA,gN]
     (try go_frame)
     (repeat (first | ((with_reducible apply wpQuiet_build_ix);(·exact rfl);go_frame) | ((with_reducible apply wpQuiet_build_nd);(·exact rfl);(·exact rfl);go_frame) | ((with_reducible apply wpQuiet_nilput);(·exact rfl);go_frame) | ((with_reducible apply wpQuiet_load);(·exact rfl);(·rintro _ ⟨gq,rfl⟩;exact ii);go_frame) | go_big_quiet_step (exact qZ)));refine nZ ?_
     (repeat (first | ((with_reducible apply wpQuiet_build_ix);(·exact rfl);go_frame) | ((with_reducible apply wpQuiet_build_nd);(·exact rfl);(·exact rfl);go_frame) | ((with_reducible apply wpQuiet_nilput);(·exact rfl);go_frame) | ((with_reducible apply wpQuiet_load);(·exact rfl);(·rintro _ ⟨gq,rfl⟩;exact ii);go_frame) | go_big_quiet_step (exact qZ)));refine nZ ?_
     rintro w2 hw2
     have B2:=btCls hw2
     clear hw2
     go_wp2_with fail
     refine (Bt.call (IH _ (by omega))).mono ?_
     rintro e w3 ⟨v,q,rfl,hR,B3⟩
     dsimp only at B3 ⊢
     rcases hR with ⟨e,he,rfl,rfl⟩ | ⟨p',K2,rfl,rfl,hK2,tp⟩
     ·go_wp2_with fail
      dsimp only [Nx]
      (repeat go_big_quiet_step (exact qZ));refine nZ ?_
      (repeat go_big_quiet_step (exact qZ));refine nZ ?_
      refine btI ?_;intro w2 B2;go_wp2_with (first | ((with_reducible apply wpList_store);(·exact rfl);(·exact rfl);(·exact ii)) | (with_reducible apply wpList_build0));dsimp only [Nx];(repeat go_big_quiet_step (exact qZ));refine nZ ?_;(first | (rintro w3 hw3;have B3:=btCls hw3;clear hw3) | rintro g3);go_wp2_with (first | ((with_reducible apply wpList_store);(·exact rfl);(·exact rfl);(·exact ii)) | (with_reducible apply wpList_build0))
      (refine bodyPost_ret (rc12 rfl _ _ _ _ rfl ii) rfl ?_)
      exact ⟨_,_,rfl,.inl ⟨e,he,rfl,rfl⟩,(Bt.fin (p:=S K1 (c - 3*cC n - cC n))).mono λ h q=>T.sub _ _ _ hK h (T.less _ _ _ (by have:cC (n+1)=1+4*cC n:=rfl;omega) h q)⟩
     ·have hF:Fit4 (upd l' 3 p'):=by
       cases hp':p'.isNone
       ·exact T.fit4 (w:=w3) (K:=K2) (c:=c - 3*cC n - cC n) hf' tp hp'
       ·exact fit4_upd hf' hp'
      have Tp:=Lib.hid tp
      clear tp
      go_wp2_with fail
      dsimp only [Nx]
      (repeat go_big_quiet_step (exact qZ));refine nZ ?_
      (repeat go_big_quiet_step (exact qZ));refine nZ ?_
      refine btI ?_;intro w2 B2;go_wp2_with ((with_reducible apply wpList_store);(·exact rfl);(·exact rfl);(·exact ii));dsimp only [Nx];(repeat go_big_quiet_step (exact qZ));refine nZ ?_;(first | (rintro w3 hw3;have B3:=btCls hw3;clear hw3) | rintro g3);go_wp2_with ((with_reducible apply wpList_store);(·exact rfl);(·exact rfl);(·exact ii))
      refine ⟨⟨3+1,upd l' 3 p',K2,by omega,rfl,hK.trans hK2,λ j hj=>?_,λ j hj=>?_,hF,?_⟩,by simp [intOf]⟩
      ·by_cases e:j=3
       ·subst e
        rw [show upd l' 3 p' 3=p' from if_pos rfl]
        have tp:=Tp.out
        first | exact tp | (refine tp.congr λ j hj=>?_;congr 1;omega)
       ·rw [show upd l' 3 p' j=l' j from if_neg e]
        exact (Hlt.out j (by omega)).mono hK2
      ·rw [show upd l' 3 p' j=l' j from if_neg (by omega)]
       exact Hge.out j (by omega)
      ·rw [show c - (3+1)*cC n=c - 3*cC n - cC n by omega]
       infer_instance
   ·obtain rfl:k=4:=by omega
    have Hl:=Lib.hid hlt'
    clear hlt' hge
    have hv:p.level=(n:Int)+1:=by
     rcases t.lv with rfl | h
     ·have:=Hp.out;rw [Pt.none_isNone] at this;cases this
     ·exact h.2.1
    have Hv:=Lib.hid hv
    clear hv
    cases he:ptsEq l' l
    ·haveI:EqlTy 265 (cs4 l') (cs4 l) false:=by have:=eqlPts l' l;rw [he] at this;exact this
     have P:=puta_tq T K1 (c - 4*cC n) l' (n+1) (by omega) (by omega)
     rw [show (((n+1:Nat):Int))=(n:Int)+1 by omega] at P
     clear he
     go_wp2_with (first | ((with_reducible apply wpList_load);(·exact rfl);(·exact ii)) | ((with_reducible apply wpList_eql);(·exact rfl);(·exact rfl);(·exact ii)))
     refine (Bt.call P).mono ?_
     rintro e w4 ⟨v,q,rfl,hR,B4⟩
     dsimp only at B4 ⊢
     rcases hR with ⟨e,he,rfl,rfl⟩ | ⟨p2,K2,rfl,rfl,hK2,hx2⟩
     ·go_wp2_with fail
      (refine bodyPost_ret (rc12 rfl _ _ _ _ rfl ii) rfl ?_)
      exact ⟨_,_,rfl,.inl ⟨e,he,rfl,rfl⟩,(Bt.fin (p:=S K1 (c - 4*cC n - 1))).mono λ h q=>T.sub _ _ _ hK h (T.less _ _ _ (by omega) h q)⟩
     ·have Hx2:=Lib.hid hx2
      clear hx2
      go_wp2_with fail
      (refine bodyPost_ret (rc12 rfl _ _ _ _ rfl ii) rfl ?_)
      refine ⟨_,_,rfl,.inr ⟨p2,K2,rfl,rfl,hK.trans hK2,?_⟩,(Bt.fin (p:=S K2 (c - 4*cC n - 1))).mono λ h q=>T.less _ _ _ (by omega) h q⟩
      rcases Hx2.out with ⟨h1,rfl⟩ | ⟨h1,h2,h3⟩
      ·refine Tr.zero K2 λ j hj=>?_
       obtain ⟨k,hk,i,hi,rfl⟩:=span_split hj
       have h4:=Hl.out k hk
       rw [(ptsEq_iff _ _).1 h1 k hk] at h4
       rw [cutB_sub]
       exact Tr.zeros h4 i hi
      ·exact .inr ⟨h1,h2,l',hf',h3,λ k hk=>((Hl.out k hk).mono hK2).congr λ j _=>cutB_sub gg m n k j⟩
    ·haveI:EqlTy 265 (cs4 l') (cs4 l) true:=by have:=eqlPts l' l;rw [he] at this;exact this
     have He:=Lib.hid he
     clear he
     go_wp2_with (first | ((with_reducible apply wpList_load);(·exact rfl);(·exact ii)) | ((with_reducible apply wpList_eql);(·exact rfl);(·exact rfl);(·exact ii)))
     (refine bodyPost_ret (rc12 rfl _ _ _ _ rfl ii) rfl ?_)
     refine ⟨_,_,rfl,.inr ⟨p,K1,rfl,rfl,hK,.inr ⟨Hp.out,Hv.out,l,hf,hK _ _ Hx.out,λ k hk=>?_⟩⟩,(Bt.fin (p:=S K1 (c - 4*cC n))).mono λ h q=>T.less _ _ _ (by omega) h q⟩
     have h4:=Hl.out k hk
     rw [(ptsEq_iff _ _).1 He.out k hk] at h4
     exact h4.congr λ j _=>cutB_sub gg m n k j
end
end Go.Proofs.YtlfjdjndhcmliaaGreatDoor
