/- WholeOld, part 20. -/
import Derived.Test.YtlfjdjndhcmliaaGreatDoorA19
set_option maxRecDepth 100000
set_option maxHeartbeats 4000000
set_option linter.all false
namespace Go.Proofs.YtlfjdjndhcmliaaGreatDoor
open Go.RowKit Go.Sort
def cC:Nat->Nat
 |0=>0
 |n+1=>1+4*cC n
theorem kP(g:Nat->UInt8)(m:Int)(n k j:Nat):Kg g (256*m) (span n*k+j)=Kg (λ j=>g (span n*k+j)) (256*(m-(k:Int)*(bl n:Nat))) j:=by
 unfold Kg
 have e:((span n*k+j:Nat):Int)=256*((k:Int)*(bl n:Nat))+j:=by
  unfold span;rw [Nat.mul_assoc,Nat.mul_comm (bl n) k];simp only [Int.natCast_add,Int.natCast_mul];rfl
 have e2:(((span n*k+j:Nat):Int)<256*m)↔((j:Int)<256*(m-(k:Int)*(bl n:Nat))):=by rw [e];omega
 by_cases h:((span n*k+j:Nat):Int)<256*m
 ·rw [if_pos h,if_pos (e2.1 h)]
 ·rw [if_neg h,if_neg λ h2=>h (e2.2 h2)]
theorem yN{l:Nat->Pt}{k:Nat}{p:Pt}(hf:Qi l)(hp:p.isNone=true):Qi (upd l k p):=by
 refine⟨λ j=>?_⟩
 by_cases e:j=k
 ·subst e;rw [show upd l j p j=p from if_pos rfl,(Pt.isNone_iff p).1 hp];exact UV.h 0
 ·rw [show upd l k p j=l j from if_neg e];exact hf.h j
theorem ZbW{n j:Nat}(hj:j<span (n+1)):∃ k,k<4/\∃ i,i<span n/\j=span n*k+i:=by
 have hp:0<span n:=by have:=Uc n;unfold span;omega
 have e:span (n+1)=span n*4:=by unfold span;simp only [bl];omega
 exact⟨j/span n,Nat.div_lt_of_lt_mul (by rw [<-e];exact hj),j%span n,Nat.mod_lt _ hp,(Nat.div_add_mod j (span n)).symm⟩
section
variable{st:Nat}{S:KS->Nat->SP}(T:VT st S)
include T
theorem ZlC:∀(n:Nat)(K:KS)(c:Nat)(p:Pt)(g:Nat->UInt8)(m:Int),Tr K n p g->n<=3->-(64+64*(3-(n:Int)))<=m->m<=64->cC n<=c ->
  Tq 163 #[Jv st,.agg p.cs,.int .i64 (n:Nat),.int .i64 m] (S K c) (RP S K (c-cC n) λ p' K'=>Tr K' n p' (Kg g (256*m))):=by
 intro n
 induction n with
 |zero =>
  intro K c p g m t hn hm hm2 hc;refine Tq.of λ W h B=>?_
  have hb:∀(q:Prop) [Decidable q],q->decide q=true:=λ q _ h=>decide_eq_true h
  by_cases h0:m<=0
  ·go_in
   go_wp2_with(with_reducible apply Zj)
   (refine bodyPost_ret (YQ rfl _ _ _ _ rfl ii) rfl ?_)
   exact⟨_,_,rfl,.inr ⟨Pt.none,K,rfl,rfl,KS.le.refl K,Tr.zero K λ j hj=>if_neg (by omega)⟩,(Bt.fin (p:=S K c)).mono λ h q=>T.less _ _ _ (by omega) h q⟩
  ·cases hp:p.isNone
   ·have HN:∀ w,Fn 169 #[.agg p.cs] w (.bool false):=λ w=>by have e:=Y4 p w;rw [hp]at e;exact e
    clear hp
    go_in
    go_wp2_with(first|(with_reducible refine Fn.go λ g=>?_)|((with_reducible apply Za);(·exact rfl);(·exact ii))|((with_reducible apply Z2);(·exact rfl);(·exact rfl);(·exact ii)))
    (refine bodyPost_ret (YQ rfl _ _ _ _ rfl ii) rfl ?_)
    exact⟨_,_,rfl,.inr ⟨p,K,rfl,rfl,KS.le.refl K,t.congr λ j hj=>if_pos (by have hj:j<256:=hj;omega)⟩,(Bt.fin (p:=S K c)).mono λ h q=>T.less _ _ _ (by omega) h q⟩
   ·obtain rfl:=(Pt.isNone_iff p).1 hp;clear hp
    go_in
    go_wp2_with(first|(with_reducible refine Fn.go λ g=>?_)|((with_reducible apply Z2);(·exact rfl);(·exact rfl);(·exact ii))|(with_reducible apply Zj))
    (refine bodyPost_ret (YQ rfl _ _ _ _ rfl ii) rfl ?_)
    exact⟨_,_,rfl,.inr ⟨Pt.none,K,rfl,rfl,KS.le.refl K,t.congr λ j hj=>by rw [t.zeros j hj];unfold Kg;split;exact t.zeros j hj;rfl⟩,(Bt.fin (p:=S K c)).mono λ h q=>T.less _ _ _ (by omega) h q⟩
 |succ n ih =>
  intro K c p gg m t hn hm hm2 hc;have hcC:cC (n+1)=1+4*cC n:=rfl;have hbp:=Uc n;have hbl:bl n<=16:=ye (show n<=2 by omega);have BL:=KZ ((n:Int)+1) n rfl (by omega);have BL2:=KZ ((n:Int)+1+1) (n+1) (by omega) (by omega);have e0:((n:Int)+1==0)=false:=by rw [beq_eq_false_iff_ne];omega
  refine Tq.of λ W h B=>?_
  by_cases h0:m<=0
  ·go_in
   go_wp2_with(with_reducible apply Zj)
   (refine bodyPost_ret (YQ rfl _ _ _ _ rfl ii) rfl ?_)
   exact⟨_,_,rfl,.inr ⟨Pt.none,K,rfl,rfl,KS.le.refl K,Tr.zero K λ j hj=>if_neg (by omega)⟩,(Bt.fin (p:=S K c)).mono λ h q=>T.less _ _ _ (by omega) h q⟩
  cases hp:p.isNone
  rotate_left
  ·obtain rfl:=(Pt.isNone_iff p).1 hp;clear hp
   go_in
   go_wp2_with(first|(with_reducible refine Fn.go λ g=>?_)|((with_reducible apply Z2);(·exact rfl);(·exact rfl);(·exact ii))|(with_reducible apply Zj))
   (refine bodyPost_ret (YQ rfl _ _ _ _ rfl ii) rfl ?_)
   exact⟨_,_,rfl,.inr ⟨Pt.none,K,rfl,rfl,KS.le.refl K,t.congr λ j hj=>by rw [t.zeros j hj];unfold Kg;split;exact t.zeros j hj;rfl⟩,(Bt.fin (p:=S K c)).mono λ h q=>T.less _ _ _ (by omega) h q⟩
  have HN:∀ w,Fn 169 #[.agg p.cs] w (.bool false):=λ w=>by have e:=Y4 p w;rw [hp]at e;exact e
  by_cases h1:(bl (n+1):Int)<=m
  ·clear hp
   go_in
   go_wp2_with(first|(with_reducible refine Fn.go λ g=>?_)|((with_reducible apply Za);(·exact rfl);(·exact ii))|((with_reducible apply Z2);(·exact rfl);(·exact rfl);(·exact ii)))
   (refine bodyPost_ret (YQ rfl _ _ _ _ rfl ii) rfl ?_)
   exact⟨_,_,rfl,.inr ⟨p,K,rfl,rfl,KS.le.refl K,t.congr λ j hj=>if_pos (by unfold span at hj;omega)⟩,(Bt.fin (p:=S K c)).mono λ h q=>T.less _ _ _ (by omega) h q⟩
  have L:=zh T K c t (by omega);have Hp:=Lib.hid hp;clear hp
  go_in
  go_wp2_with(first|(with_reducible refine Fn.go λ g=>?_)|((with_reducible apply Za);(·exact rfl);(·exact ii))|((with_reducible apply Z2);(·exact rfl);(·exact rfl);(·exact ii)));refine(Bt.call L).mono ?_;rintro e w1 ⟨v,q,rfl,⟨l,⟨rfl,rfl⟩,hf,⟨_,hx⟩,hl⟩,B1⟩;dsimp only at B1 ⊢;have Hx:=Lib.hid (hx Hp.out);clear hx;go_wp2_with((with_reducible apply Za);(·exact rfl);(·exact ii))
  go_loopw [44] (λ i wr=>∃(k:Nat)(l':Nat->Pt)(K1:KS),k<=4/\i=.int .i64 k/\K.le K1/\(∀ j,j<k->Tr K1 n (l' j) (Kg (λ x=>gg (span n*j+x)) (256*(m-(j:Int)*(bl n:Nat)))))/\(∀ j,k<=j->l' j=l j)/\Qi l'/\Bt W h [Zd (w1.heap.size+1) (YN l) 265,Zd w1.heap.size (YN l') 265,Zd (W.heap.size+1) Pt.none.cs 50,Zd W.heap.size p.cs 50,S K1 (c-k*cC n)] wr)
   (λ i _=>4-(intOf i).toNat)
  case atStart=>exact⟨0,l,K,by omega,rfl,KS.le.refl K,λ j hj=>by omega,λ j _=>rfl,hf,by rw [Nat.zero_mul,Nat.sub_zero];infer_instance⟩
  case round =>
   clear B B1;obtain⟨k,l',K1,hk,rfl,hK,hlt',hge,hf',B⟩:=hrel
   by_cases hk4:k<4
   ·rcases(show k=0\/k=1\/k=2\/k=3 by omega)with rfl|rfl|rfl|rfl
    ·have IH:∀ x:Int,x=m-(0:Int)*(bl n:Nat)->_:=λ x hx=>ih K1 (c-0*cC n) (l' 0) (λ y=>gg (span n*0+y)) x (by rw [hge 0 (by omega)];exact(hl 0 (by omega)).mono hK) (by omega) (by omega) (by omega) (by have:cC (n+1)=1+4*cC n:=rfl;omega)
     have Hge:=Lib.hid hge;have Hlt:=Lib.hid hlt';clear hge hlt';go_wp2_with fail;refine plZ (.q [1,2,3,4,5,6,7,8,9,10,11,12] (.f [0] (.x [13] (.q [14,15,17] (.f [16] (.x [18] (.q [19] .d))))))) ?_;simp only [Zk.run,pick,gZ,gS,gA,gN]
     (try go_frame)
     (repeat(first|((with_reducible apply Zm);(·exact rfl);go_frame)|((with_reducible apply Zl);(·exact rfl);(·exact rfl);go_frame)|((with_reducible apply Zp);(·exact rfl);go_frame)|((with_reducible apply Zc);(·exact rfl);(·rintro _ ⟨gq,rfl⟩;exact ii);go_frame)|go_big_quiet_step (exact qZ)));refine nZ ?_
     (repeat(first|((with_reducible apply Zm);(·exact rfl);go_frame)|((with_reducible apply Zl);(·exact rfl);(·exact rfl);go_frame)|((with_reducible apply Zp);(·exact rfl);go_frame)|((with_reducible apply Zc);(·exact rfl);(·rintro _ ⟨gq,rfl⟩;exact ii);go_frame)|go_big_quiet_step (exact qZ)));refine nZ ?_
     rintro w2 hw2;have B2:=Ze hw2;clear hw2;go_wp2_with fail;refine(Bt.call (IH _ (by omega))).mono ?_;rintro e w3 ⟨v,q,rfl,hR,B3⟩;dsimp only at B3 ⊢;rcases hR with ⟨e,he,rfl,rfl⟩|⟨p',K2,rfl,rfl,hK2,tp⟩
     ·go_wp2_with fail;dsimp only [Nx]
      (repeat go_big_quiet_step (exact qZ));refine nZ ?_
      (repeat go_big_quiet_step (exact qZ));refine nZ ?_
      refine Z4 ?_;intro w2 B2;go_wp2_with(first|((with_reducible apply Zb);(·exact rfl);(·exact rfl);(·exact ii))|(with_reducible apply Zj));dsimp only [Nx];(repeat go_big_quiet_step (exact qZ));refine nZ ?_;(first|(rintro w3 hw3;have B3:=Ze hw3;clear hw3)|rintro g3);go_wp2_with(first|((with_reducible apply Zb);(·exact rfl);(·exact rfl);(·exact ii))|(with_reducible apply Zj))
      (refine bodyPost_ret (YQ rfl _ _ _ _ rfl ii) rfl ?_)
      exact⟨_,_,rfl,.inl ⟨e,he,rfl,rfl⟩,(Bt.fin (p:=S K1 (c-0*cC n-cC n))).mono λ h q=>T.sub _ _ _ hK h (T.less _ _ _ (by have:cC (n+1)=1+4*cC n:=rfl;omega) h q)⟩
     ·have hF:Qi (upd l' 0 p'):=by
       cases hp':p'.isNone
       ·exact T.fit4 (w:=w3) (K:=K2) (c:=c-0*cC n-cC n) hf' tp hp'
       ·exact yN hf' hp'
      have Tp:=Lib.hid tp;clear tp;go_wp2_with fail;dsimp only [Nx]
      (repeat go_big_quiet_step (exact qZ));refine nZ ?_
      (repeat go_big_quiet_step (exact qZ));refine nZ ?_
      refine Z4 ?_;intro w2 B2;go_wp2_with((with_reducible apply Zb);(·exact rfl);(·exact rfl);(·exact ii));dsimp only [Nx];(repeat go_big_quiet_step (exact qZ));refine nZ ?_;(first|(rintro w3 hw3;have B3:=Ze hw3;clear hw3)|rintro g3);go_wp2_with((with_reducible apply Zb);(·exact rfl);(·exact rfl);(·exact ii));refine⟨⟨0+1,upd l' 0 p',K2,by omega,rfl,hK.trans hK2,λ j hj=>?_,λ j hj=>?_,hF,?_⟩,by simp [intOf]⟩
      ·by_cases e:j=0
       ·subst e;rw [show upd l' 0 p' 0=p' from if_pos rfl];have tp:=Tp.out
        first|exact tp|(refine tp.congr λ j hj=>?_;congr 1;omega)
       ·rw [show upd l' 0 p' j=l' j from if_neg e];exact(Hlt.out j (by omega)).mono hK2
      ·rw [show upd l' 0 p' j=l' j from if_neg (by omega)];exact Hge.out j (by omega)
      ·rw [show c-(0+1)*cC n=c-0*cC n-cC n by omega];infer_instance
    ·have IH:∀ x:Int,x=m-(1:Int)*(bl n:Nat)->_:=λ x hx=>ih K1 (c-1*cC n) (l' 1) (λ y=>gg (span n*1+y)) x (by rw [hge 1 (by omega)];exact(hl 1 (by omega)).mono hK) (by omega) (by omega) (by omega) (by have:cC (n+1)=1+4*cC n:=rfl;omega)
     have Hge:=Lib.hid hge;have Hlt:=Lib.hid hlt';clear hge hlt';go_wp2_with fail;refine plZ (.q [1,2,3,4,5,6,7,8,9,10,11,12] (.f [0] (.x [13] (.q [14,15,17] (.f [16] (.x [18] (.q [19] .d))))))) ?_;simp only [Zk.run,pick,gZ,gS,gA,gN]
     (try go_frame)
     (repeat(first|((with_reducible apply Zm);(·exact rfl);go_frame)|((with_reducible apply Zl);(·exact rfl);(·exact rfl);go_frame)|((with_reducible apply Zp);(·exact rfl);go_frame)|((with_reducible apply Zc);(·exact rfl);(·rintro _ ⟨gq,rfl⟩;exact ii);go_frame)|go_big_quiet_step (exact qZ)));refine nZ ?_
     (repeat(first|((with_reducible apply Zm);(·exact rfl);go_frame)|((with_reducible apply Zl);(·exact rfl);(·exact rfl);go_frame)|((with_reducible apply Zp);(·exact rfl);go_frame)|((with_reducible apply Zc);(·exact rfl);(·rintro _ ⟨gq,rfl⟩;exact ii);go_frame)|go_big_quiet_step (exact qZ)));refine nZ ?_
     rintro w2 hw2;have B2:=Ze hw2;clear hw2;go_wp2_with fail;refine(Bt.call (IH _ (by omega))).mono ?_;rintro e w3 ⟨v,q,rfl,hR,B3⟩;dsimp only at B3 ⊢;rcases hR with ⟨e,he,rfl,rfl⟩|⟨p',K2,rfl,rfl,hK2,tp⟩
     ·go_wp2_with fail;dsimp only [Nx]
      (repeat go_big_quiet_step (exact qZ));refine nZ ?_
      (repeat go_big_quiet_step (exact qZ));refine nZ ?_
      refine Z4 ?_;intro w2 B2;go_wp2_with(first|((with_reducible apply Zb);(·exact rfl);(·exact rfl);(·exact ii))|(with_reducible apply Zj));dsimp only [Nx];(repeat go_big_quiet_step (exact qZ));refine nZ ?_;(first|(rintro w3 hw3;have B3:=Ze hw3;clear hw3)|rintro g3);go_wp2_with(first|((with_reducible apply Zb);(·exact rfl);(·exact rfl);(·exact ii))|(with_reducible apply Zj))
      (refine bodyPost_ret (YQ rfl _ _ _ _ rfl ii) rfl ?_)
      exact⟨_,_,rfl,.inl ⟨e,he,rfl,rfl⟩,(Bt.fin (p:=S K1 (c-1*cC n-cC n))).mono λ h q=>T.sub _ _ _ hK h (T.less _ _ _ (by have:cC (n+1)=1+4*cC n:=rfl;omega) h q)⟩
     ·have hF:Qi (upd l' 1 p'):=by
       cases hp':p'.isNone
       ·exact T.fit4 (w:=w3) (K:=K2) (c:=c-1*cC n-cC n) hf' tp hp'
       ·exact yN hf' hp'
      have Tp:=Lib.hid tp;clear tp;go_wp2_with fail;dsimp only [Nx]
      (repeat go_big_quiet_step (exact qZ));refine nZ ?_
      (repeat go_big_quiet_step (exact qZ));refine nZ ?_
      refine Z4 ?_;intro w2 B2;go_wp2_with((with_reducible apply Zb);(·exact rfl);(·exact rfl);(·exact ii));dsimp only [Nx];(repeat go_big_quiet_step (exact qZ));refine nZ ?_;(first|(rintro w3 hw3;have B3:=Ze hw3;clear hw3)|rintro g3);go_wp2_with((with_reducible apply Zb);(·exact rfl);(·exact rfl);(·exact ii));refine⟨⟨1+1,upd l' 1 p',K2,by omega,rfl,hK.trans hK2,λ j hj=>?_,λ j hj=>?_,hF,?_⟩,by simp [intOf]⟩
      ·by_cases e:j=1
       ·subst e;rw [show upd l' 1 p' 1=p' from if_pos rfl];have tp:=Tp.out
        first|exact tp|(refine tp.congr λ j hj=>?_;congr 1;omega)
       ·rw [show upd l' 1 p' j=l' j from if_neg e];exact(Hlt.out j (by omega)).mono hK2
      ·rw [show upd l' 1 p' j=l' j from if_neg (by omega)];exact Hge.out j (by omega)
      ·rw [show c-(1+1)*cC n=c-1*cC n-cC n by omega];infer_instance
    ·have IH:∀ x:Int,x=m-(2:Int)*(bl n:Nat)->_:=λ x hx=>ih K1 (c-2*cC n) (l' 2) (λ y=>gg (span n*2+y)) x (by rw [hge 2 (by omega)];exact(hl 2 (by omega)).mono hK) (by omega) (by omega) (by omega) (by have:cC (n+1)=1+4*cC n:=rfl;omega)
     have Hge:=Lib.hid hge;have Hlt:=Lib.hid hlt';clear hge hlt';go_wp2_with fail;refine plZ (.q [1,2,3,4,5,6,7,8,9,10,11,12] (.f [0] (.x [13] (.q [14,15,17] (.f [16] (.x [18] (.q [19] .d))))))) ?_;simp only [Zk.run,pick,gZ,gS,gA,gN]
     (try go_frame)
     (repeat(first|((with_reducible apply Zm);(·exact rfl);go_frame)|((with_reducible apply Zl);(·exact rfl);(·exact rfl);go_frame)|((with_reducible apply Zp);(·exact rfl);go_frame)|((with_reducible apply Zc);(·exact rfl);(·rintro _ ⟨gq,rfl⟩;exact ii);go_frame)|go_big_quiet_step (exact qZ)));refine nZ ?_
     (repeat(first|((with_reducible apply Zm);(·exact rfl);go_frame)|((with_reducible apply Zl);(·exact rfl);(·exact rfl);go_frame)|((with_reducible apply Zp);(·exact rfl);go_frame)|((with_reducible apply Zc);(·exact rfl);(·rintro _ ⟨gq,rfl⟩;exact ii);go_frame)|go_big_quiet_step (exact qZ)));refine nZ ?_
     rintro w2 hw2;have B2:=Ze hw2;clear hw2;go_wp2_with fail;refine(Bt.call (IH _ (by omega))).mono ?_;rintro e w3 ⟨v,q,rfl,hR,B3⟩;dsimp only at B3 ⊢;rcases hR with ⟨e,he,rfl,rfl⟩|⟨p',K2,rfl,rfl,hK2,tp⟩
     ·go_wp2_with fail;dsimp only [Nx]
      (repeat go_big_quiet_step (exact qZ));refine nZ ?_
      (repeat go_big_quiet_step (exact qZ));refine nZ ?_
      refine Z4 ?_;intro w2 B2;go_wp2_with(first|((with_reducible apply Zb);(·exact rfl);(·exact rfl);(·exact ii))|(with_reducible apply Zj));dsimp only [Nx];(repeat go_big_quiet_step (exact qZ));refine nZ ?_;(first|(rintro w3 hw3;have B3:=Ze hw3;clear hw3)|rintro g3);go_wp2_with(first|((with_reducible apply Zb);(·exact rfl);(·exact rfl);(·exact ii))|(with_reducible apply Zj))
      (refine bodyPost_ret (YQ rfl _ _ _ _ rfl ii) rfl ?_)
      exact⟨_,_,rfl,.inl ⟨e,he,rfl,rfl⟩,(Bt.fin (p:=S K1 (c-2*cC n-cC n))).mono λ h q=>T.sub _ _ _ hK h (T.less _ _ _ (by have:cC (n+1)=1+4*cC n:=rfl;omega) h q)⟩
     ·have hF:Qi (upd l' 2 p'):=by
       cases hp':p'.isNone
       ·exact T.fit4 (w:=w3) (K:=K2) (c:=c-2*cC n-cC n) hf' tp hp'
       ·exact yN hf' hp'
      have Tp:=Lib.hid tp;clear tp;go_wp2_with fail;dsimp only [Nx]
      (repeat go_big_quiet_step (exact qZ));refine nZ ?_
      (repeat go_big_quiet_step (exact qZ));refine nZ ?_
      refine Z4 ?_;intro w2 B2;go_wp2_with((with_reducible apply Zb);(·exact rfl);(·exact rfl);(·exact ii));dsimp only [Nx];(repeat go_big_quiet_step (exact qZ));refine nZ ?_;(first|(rintro w3 hw3;have B3:=Ze hw3;clear hw3)|rintro g3);go_wp2_with((with_reducible apply Zb);(·exact rfl);(·exact rfl);(·exact ii));refine⟨⟨2+1,upd l' 2 p',K2,by omega,rfl,hK.trans hK2,λ j hj=>?_,λ j hj=>?_,hF,?_⟩,by simp [intOf]⟩
      ·by_cases e:j=2
       ·subst e;rw [show upd l' 2 p' 2=p' from if_pos rfl];have tp:=Tp.out
        first|exact tp|(refine tp.congr λ j hj=>?_;congr 1;omega)
       ·rw [show upd l' 2 p' j=l' j from if_neg e];exact(Hlt.out j (by omega)).mono hK2
      ·rw [show upd l' 2 p' j=l' j from if_neg (by omega)];exact Hge.out j (by omega)
      ·rw [show c-(2+1)*cC n=c-2*cC n-cC n by omega];infer_instance
    ·have IH:∀ x:Int,x=m-(3:Int)*(bl n:Nat)->_:=λ x hx=>ih K1 (c-3*cC n) (l' 3) (λ y=>gg (span n*3+y)) x (by rw [hge 3 (by omega)];exact(hl 3 (by omega)).mono hK) (by omega) (by omega) (by omega) (by have:cC (n+1)=1+4*cC n:=rfl;omega)
     have Hge:=Lib.hid hge;have Hlt:=Lib.hid hlt';clear hge hlt';go_wp2_with fail;refine plZ (.q [1,2,3,4,5,6,7,8,9,10,11,12] (.f [0] (.x [13] (.q [14,15,17] (.f [16] (.x [18] (.q [19] .d))))))) ?_;simp only [Zk.run,pick,gZ,gS,gA,gN]
     (try go_frame)
     (repeat(first|((with_reducible apply Zm);(·exact rfl);go_frame)|((with_reducible apply Zl);(·exact rfl);(·exact rfl);go_frame)|((with_reducible apply Zp);(·exact rfl);go_frame)|((with_reducible apply Zc);(·exact rfl);(·rintro _ ⟨gq,rfl⟩;exact ii);go_frame)|go_big_quiet_step (exact qZ)));refine nZ ?_
     (repeat(first|((with_reducible apply Zm);(·exact rfl);go_frame)|((with_reducible apply Zl);(·exact rfl);(·exact rfl);go_frame)|((with_reducible apply Zp);(·exact rfl);go_frame)|((with_reducible apply Zc);(·exact rfl);(·rintro _ ⟨gq,rfl⟩;exact ii);go_frame)|go_big_quiet_step (exact qZ)));refine nZ ?_
     rintro w2 hw2;have B2:=Ze hw2;clear hw2;go_wp2_with fail;refine(Bt.call (IH _ (by omega))).mono ?_;rintro e w3 ⟨v,q,rfl,hR,B3⟩;dsimp only at B3 ⊢;rcases hR with ⟨e,he,rfl,rfl⟩|⟨p',K2,rfl,rfl,hK2,tp⟩
     ·go_wp2_with fail;dsimp only [Nx]
      (repeat go_big_quiet_step (exact qZ));refine nZ ?_
      (repeat go_big_quiet_step (exact qZ));refine nZ ?_
      refine Z4 ?_;intro w2 B2;go_wp2_with(first|((with_reducible apply Zb);(·exact rfl);(·exact rfl);(·exact ii))|(with_reducible apply Zj));dsimp only [Nx];(repeat go_big_quiet_step (exact qZ));refine nZ ?_;(first|(rintro w3 hw3;have B3:=Ze hw3;clear hw3)|rintro g3);go_wp2_with(first|((with_reducible apply Zb);(·exact rfl);(·exact rfl);(·exact ii))|(with_reducible apply Zj))
      (refine bodyPost_ret (YQ rfl _ _ _ _ rfl ii) rfl ?_)
      exact⟨_,_,rfl,.inl ⟨e,he,rfl,rfl⟩,(Bt.fin (p:=S K1 (c-3*cC n-cC n))).mono λ h q=>T.sub _ _ _ hK h (T.less _ _ _ (by have:cC (n+1)=1+4*cC n:=rfl;omega) h q)⟩
     ·have hF:Qi (upd l' 3 p'):=by
       cases hp':p'.isNone
       ·exact T.fit4 (w:=w3) (K:=K2) (c:=c-3*cC n-cC n) hf' tp hp'
       ·exact yN hf' hp'
      have Tp:=Lib.hid tp;clear tp;go_wp2_with fail;dsimp only [Nx]
      (repeat go_big_quiet_step (exact qZ));refine nZ ?_
      (repeat go_big_quiet_step (exact qZ));refine nZ ?_
      refine Z4 ?_;intro w2 B2;go_wp2_with((with_reducible apply Zb);(·exact rfl);(·exact rfl);(·exact ii));dsimp only [Nx];(repeat go_big_quiet_step (exact qZ));refine nZ ?_;(first|(rintro w3 hw3;have B3:=Ze hw3;clear hw3)|rintro g3);go_wp2_with((with_reducible apply Zb);(·exact rfl);(·exact rfl);(·exact ii));refine⟨⟨3+1,upd l' 3 p',K2,by omega,rfl,hK.trans hK2,λ j hj=>?_,λ j hj=>?_,hF,?_⟩,by simp [intOf]⟩
      ·by_cases e:j=3
       ·subst e;rw [show upd l' 3 p' 3=p' from if_pos rfl];have tp:=Tp.out
        first|exact tp|(refine tp.congr λ j hj=>?_;congr 1;omega)
       ·rw [show upd l' 3 p' j=l' j from if_neg e];exact(Hlt.out j (by omega)).mono hK2
      ·rw [show upd l' 3 p' j=l' j from if_neg (by omega)];exact Hge.out j (by omega)
      ·rw [show c-(3+1)*cC n=c-3*cC n-cC n by omega];infer_instance
   ·obtain rfl:k=4:=by omega
    have Hl:=Lib.hid hlt';clear hlt' hge
    have hv:p.level=(n:Int)+1:=by
     rcases t.lv with rfl|h
     ·have:=Hp.out;rw [Pt.none_isNone]at this;cases this
     ·exact h.2.1
    have Hv:=Lib.hid hv;clear hv;cases he:yg l' l
    ·haveI:kz 265 (YN l') (YN l) false:=by have:=Vu l' l;rw [he]at this;exact this
     have P:=Zjb T K1 (c-4*cC n) l' (n+1) (by omega) (by omega);rw [show (((n+1:Nat):Int))=(n:Int)+1 by omega]at P;clear he;go_wp2_with(first|((with_reducible apply Za);(·exact rfl);(·exact ii))|((with_reducible apply Jh);(·exact rfl);(·exact rfl);(·exact ii)));refine(Bt.call P).mono ?_;rintro e w4 ⟨v,q,rfl,hR,B4⟩;dsimp only at B4 ⊢;rcases hR with ⟨e,he,rfl,rfl⟩|⟨p2,K2,rfl,rfl,hK2,hx2⟩
     ·go_wp2_with fail
      (refine bodyPost_ret (YQ rfl _ _ _ _ rfl ii) rfl ?_)
      exact⟨_,_,rfl,.inl ⟨e,he,rfl,rfl⟩,(Bt.fin (p:=S K1 (c-4*cC n-1))).mono λ h q=>T.sub _ _ _ hK h (T.less _ _ _ (by omega) h q)⟩
     ·have Hx2:=Lib.hid hx2;clear hx2;go_wp2_with fail
      (refine bodyPost_ret (YQ rfl _ _ _ _ rfl ii) rfl ?_)
      refine⟨_,_,rfl,.inr ⟨p2,K2,rfl,rfl,hK.trans hK2,?_⟩,(Bt.fin (p:=S K2 (c-4*cC n-1))).mono λ h q=>T.less _ _ _ (by omega) h q⟩;rcases Hx2.out with ⟨h1,rfl⟩|⟨h1,h2,h3⟩
      ·refine Tr.zero K2 λ j hj=>?_
       obtain⟨k,hk,i,hi,rfl⟩:=ZbW hj;have h4:=Hl.out k hk;rw [(qL _ _).1 h1 k hk]at h4;rw [kP];exact Tr.zeros h4 i hi
      ·exact .inr ⟨h1,h2,l',hf',h3,λ k hk=>((Hl.out k hk).mono hK2).congr λ j _=>kP gg m n k j⟩
    ·haveI:kz 265 (YN l') (YN l) true:=by have:=Vu l' l;rw [he]at this;exact this
     have He:=Lib.hid he;clear he;go_wp2_with(first|((with_reducible apply Za);(·exact rfl);(·exact ii))|((with_reducible apply Jh);(·exact rfl);(·exact rfl);(·exact ii)))
     (refine bodyPost_ret (YQ rfl _ _ _ _ rfl ii) rfl ?_)
     refine⟨_,_,rfl,.inr ⟨p,K1,rfl,rfl,hK,.inr ⟨Hp.out,Hv.out,l,hf,hK _ _ Hx.out,λ k hk=>?_⟩⟩,(Bt.fin (p:=S K1 (c-4*cC n))).mono λ h q=>T.less _ _ _ (by omega) h q⟩;have h4:=Hl.out k hk;rw [(qL _ _).1 He.out k hk]at h4;exact h4.congr λ j _=>kP gg m n k j
end
end Go.Proofs.YtlfjdjndhcmliaaGreatDoor
