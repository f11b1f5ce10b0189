/- WholeOld, part 22. -/
import Derived.Test.YtlfjdjndhcmliaaGreatDoorA18
import Derived.Test.YtlfjdjndhcmliaaGreatDoorA17
import Derived.Test.YtlfjdjndhcmliaaGreatDoorA21
set_option maxRecDepth 100000
set_option maxHeartbeats 4000000
set_option linter.all false
namespace Go.Proofs.YtlfjdjndhcmliaaGreatDoor
open Go.RowKit Go.Sort
theorem ZjV(s:ByteArray):s.extract 0 s.size=s:=Yu (by simp [ByteArray.data_extract])
theorem Zis(s:ByteArray)(a k:Nat):s.extract (a+k) s.size=(s.extract a s.size).extract k (s.extract a s.size).size:=Yu (by
 simp [List.extract_eq_take_drop]
 omega)
theorem ZiO(g:Nat->UInt8)(s:ByteArray)(off a k o':Nat)(ho:o'=off+a)(hk:a+k<=s.size)(j:Nat):jD g off (s.extract 0 (a+k)) j=jD (jD g off (s.extract 0 a)) (256*(o'/256)+o'%256) ((s.extract a s.size).extract 0 k) j:=by
 have e:256*(o'/256)+o'%256=off+a:=by omega
 rw [e];unfold jD;simp only [ByteArray.size_extract,YH]
 (repeat' split)<;>first|rfl|(exfalso;omega)|(congr 1;omega)
theorem Bt.sw{W w:World}{h:Hl}{l l':List SP}[B:Bt W h l w](i:Nat){p q:SP}(e:l[i]?=some p)(e':l'=l.set i q)(f:∀ h,p h->q h):Bt W h l' w:=e'▸B.map e f
theorem Ob.congr{K:KS}{n:Nd}{g g':Nat->UInt8}(o:Ob K n g)(h:∀ j,g' j=g j):Ob K n g':=by
 rw [show g'=g from funext h];exact o
section
variable{st:Nat}{S:KS->Nat->SP}(T:VT st S)
include T
theorem qP(K:KS)(c:Nat){z:Nat}{r0:Pt}{g0:Nat->UInt8}(o:Ob K ⟨z,r0⟩ g0)(off:Nat)(s:ByteArray)(hs:s.size≠0)(ho:off+s.size<=16384)(hc:70000<=c) :
  Tq 65 #[Jv st,.agg (Nd.mk z r0).cs,.int .i64 off,.string s] (S K c) (RN S K (c-70000) λ n' K'=>n'.size=(max z (off+s.size):Nat)/\Ob K' n' (jD g0 off s)):=by
 have G:=ZaP T K c o (off+s.size) ho (by omega);rw [show (((off+s.size:Nat):Int))=(off:Int)+s.size by omega]at G;have hne:s.toList.isEmpty=false:=Yg hs;have hz:z<=16384:=by have:((z:Int))<=16384:=o.sz.2;omega
 obtain⟨M,hM⟩:∃ M,M=max z (off+s.size):=⟨_,rfl⟩
 have hM1:off+s.size<=M:=by omega
 have hM2:M<=16384:=by omega
 rw [<-hM]at G ⊢;clear hM;refine Tq.of λ W h B=>?_
 go_in
 go_wp2_with((with_reducible apply Za);(·exact rfl);(·exact ii));refine(Bt.call G).mono ?_;rintro e w1 ⟨v,q,rfl,hR,B1⟩;dsimp only at B1 ⊢;rcases hR with ⟨e,he,rfl,rfl⟩|⟨p1,K1,rfl,rfl,hK1,hz1,o1⟩
 ·go_wp2_with(with_reducible apply Zj)
  (refine bodyPost_ret (YR rfl _ _ _ _ rfl ii) rfl ?_)
  exact⟨_,_,rfl,.inl ⟨e,he,rfl,rfl⟩,(Bt.fin (p:=S K (c-3))).mono λ h q=>T.less _ _ _ (by omega) h q⟩
 ·obtain⟨p1s,p1r⟩:=p1;obtain rfl:p1s=(M:Nat):=hz1;have O1:=Lib.hid o1;clear o1;have hs0:s.extract 0 s.size=s:=ZjV s;have Hs0:=Lib.hid hs0;clear hs0;go_wp2_with fail
  go_loopw [2,3] (λ ov sv wr=>∃(a:Nat)(r:Pt)(K2:KS),a<=s.size/\ov=.int .i64 (off+a:Nat)/\sv=.string (s.extract a s.size)/\K.le K2/\Ob K2 ⟨M,r⟩ (jD g0 off (s.extract 0 a))/\Bt W h [Zd (W.heap.size+1) Nd.none.cs 52,Zd W.heap.size (Nd.mk M r).cs 52,S K2 (c-3-4*a)] wr)
   (λ ov _ _=>off+s.size-(intOf ov).toNat)
  case atStart =>
   refine⟨0,p1r,K1,Nat.zero_le _,rfl,by rw [Hs0.out],hK1,O1.out.congr λ j=>?_,?_⟩
   ·unfold jD;rw [if_neg (by simp [ByteArray.size_extract])]
   ·rw [Nat.mul_zero,Nat.sub_zero];infer_instance
  case round =>
   clear B B1;obtain⟨a,r,K2,ha,rfl,rfl,hK2,o2,B⟩:=hrel;obtain⟨o',ho'⟩:∃ o',o'=off+a:=⟨_,rfl⟩
   obtain⟨t,ht⟩:∃ t,t=s.extract a s.size:=⟨_,rfl⟩
   rw [<-ho',<- ht];have hts:t.size=s.size-a:=by rw [ht,ByteArray.size_extract];omega
   by_cases hlt:a<s.size
   ·obtain⟨k,hk⟩:∃ k,k=min t.size (256-o'%256):=⟨_,rfl⟩
    have hk0:1<=k:=by omega
    have hk1:k<=t.size:=by omega
    have hk2:o'%256+k<=256:=by omega
    have hmin:yA (t.size:Int) (256-(o':Int)%256)=k:=by unfold yA;split<;>omega
    have hX:(t.extract 0 k).size=k:=by rw [ByteArray.size_extract];omega
    have L:=ZjL T K2 (c-3-4*a) o2 (o'/256) (by omega) (o'%256) (t.extract 0 k) (by omega) (by omega) (by omega) (by omega);have hne2:t.toList.isEmpty=false:=Yg (by omega);have he1:(((o'/256:Nat)):Int)=(o':Int)/256:=by omega
    have he2:(((o'%256:Nat)):Int)=(o':Int)%256:=by omega
    rw [he1,he2]at L;have hob:o'<=16384:=by omega
    have hac:4*a<=65536:=by omega
    have Ht:=Lib.hid ht;have Ho:=Lib.hid ho';have Hts:=Lib.hid hts;clear ht ho' hts he1 he2 hk hX o2;go_wp2_with fail;refine plZ (.q [0,1,2,3,4,5,6,7] (.x [8] (.q [9,10] (.f [11] (.x [12] (.q [13] .d)))))) ?_;simp only [Zk.run,pick,gZ,gS,gA,gN]
    (try go_frame)
    (repeat(first|((with_reducible apply Zm);(·exact rfl);go_frame)|((with_reducible apply Zl);(·exact rfl);(·exact rfl);go_frame)|((with_reducible apply Zp);(·exact rfl);go_frame)|((with_reducible apply Zc);(·exact rfl);(·rintro _ ⟨gq,rfl⟩;exact ii);go_frame)|go_big_quiet_step (exact qZ)));refine nZ ?_
    rintro w2 hw2;have B2:=Ze hw2;clear hw2;go_wp2_with fail;refine(Bt.call L).mono ?_;rintro e w3 ⟨v,q,rfl,hR,B3⟩;dsimp only at B3 ⊢;rcases hR with ⟨e,he,rfl,rfl⟩|⟨p2,K3,rfl,rfl,hK3,hz3,o3⟩
    ·go_wp2_with fail;dsimp only [Nx]
     (repeat go_big_quiet_step (exact qZ));refine nZ ?_
     (repeat go_big_quiet_step (exact qZ));refine nZ ?_
     refine Z4 ?_;intro w2 B2;go_wp2_with(with_reducible apply Zj);dsimp only [Nx];(repeat go_big_quiet_step (exact qZ));refine nZ ?_;(first|(rintro w3 hw3;have B3:=Ze hw3;clear hw3)|rintro g3);go_wp2_with(with_reducible apply Zj)
     (refine bodyPost_ret (YR rfl _ _ _ _ rfl ii) rfl ?_)
     exact⟨_,_,rfl,.inl ⟨e,he,rfl,rfl⟩,(Bt.fin (p:=S K2 (c-3-4*a-4))).mono λ h q=>T.sub _ _ _ hK2 h (T.less _ _ _ (by omega) h q)⟩
    ·obtain⟨p2s,p2r⟩:=p2;obtain rfl:p2s=(M:Nat):=hz3;have O3:=Lib.hid o3;clear o3;go_wp2_with fail;dsimp only [Nx]
     (repeat go_big_quiet_step (exact qZ));refine nZ ?_
     (repeat go_big_quiet_step (exact qZ));refine nZ ?_
     refine Z4 ?_;intro w2 B2;go_wp2_with fail;dsimp only [Nx];(repeat go_big_quiet_step (exact qZ));refine nZ ?_;(first|(rintro w3 hw3;have B3:=Ze hw3;clear hw3)|rintro g3);go_wp2_with fail;refine plZ (.q [0,1,2,3,4,5,6,7] .d) ?_;simp only [Zk.run,pick,gZ,gS,gA,gN]
     (try go_frame)
     (repeat(first|((with_reducible apply Zm);(·exact rfl);go_frame)|((with_reducible apply Zl);(·exact rfl);(·exact rfl);go_frame)|((with_reducible apply Zp);(·exact rfl);go_frame)|((with_reducible apply Zc);(·exact rfl);(·rintro _ ⟨gq,rfl⟩;exact ii);go_frame)|go_big_quiet_step (exact qZ)));refine nZ ?_
     rintro w5 hw5;have B5:=Ze hw5;clear hw5;go_wp2_with fail;have ho:=Ho.out;have hts:=Hts.out;refine⟨⟨a+k,p2r,K3,by omega,congrArg (Value.int .i64) (by omega),congrArg Value.string ?_,hK2.trans hK3,O3.out.congr λ j=>?_,Bt.sw 2 rfl rfl (T.less _ _ _ (by omega))⟩,by simp [intOf];omega⟩
     ·rw [Ht.out];exact(Zis s a k).symm
     ·rw [Ht.out];exact ZiO g0 s off a k o' ho (by omega) j
   ·obtain rfl:a=s.size:=by omega
    have hne2:t.toList.isEmpty=true:=by
     have:t=⟨#[]⟩:=Yu (List.eq_nil_of_length_eq_zero (by rw [Zi];omega));rw [this,ByteArray.toList_eq];rfl
    rw [Hs0.out]at o2;have O2:=Lib.hid o2;clear ht hts ho' o2;go_wp2_with((with_reducible apply Za);(·exact rfl);(·exact ii))
    (refine bodyPost_ret (YR rfl _ _ _ _ rfl ii) rfl ?_)
    exact⟨_,_,rfl,.inr ⟨⟨M,r⟩,K2,rfl,rfl,hK2,rfl,O2.out⟩,(Bt.fin (p:=S K2 (c-3-4*s.size))).mono λ h q=>T.less _ _ _ (by omega) h q⟩
end
theorem Zm4:∀ {n:Nat},n<=3->cC n<=21
 |0,_=>by decide
 |1,_=>by decide
 |2,_=>by decide
 |3,_=>by decide
 |n+4,h=>by omega
section
variable{st:Nat}{S:KS->Nat->SP}(T:VT st S)
include T
theorem ZbD(K:KS)(c:Nat){z:Nat}{r0:Pt}{g0:Nat->UInt8}(o:Ob K ⟨z,r0⟩ g0)(m:Nat)(hm:m<=16384)(hc:30<=c) :
  Tq 97 #[Jv st,.agg (Nd.mk z r0).cs,.int .i64 m] (S K c) (RN S K (c-30) λ n' K'=>n'.size=m/\Ob K' n' (Kg g0 m)):=by
 refine Tq.of λ W h B=>?_
 rcases Nat.lt_or_ge m z with hlt|hge
 ·obtain⟨⟨z0,z1⟩,t0,hz⟩:=o;have z1:z<=16384:=by have:((z:Int))<=16384:=z1;omega
  obtain⟨k0,hk0,hk3⟩:=qx z;obtain⟨d,hd,hd3⟩:=qx m;have hdk:d<=k0:=by have:=kh (show (m:Int)<=z by omega);omega
  have t0:Tr K k0 r0 g0:=by have:(zN z).toNat=k0:=(by omega);rw [<-this];exact t0
  have V0:∀ w,Fn 161 #[.int .i64 (z:Nat)] w (.int .i64 k0):=λ w=>by have e:=Jc z w;rw [hk0]at e;exact e
  have V1:∀ w,Fn 161 #[.int .i64 (m:Nat)] w (.int .i64 d):=λ w=>by have e:=Jc m w;rw [hd]at e;exact e
  have hsp:=JV (show (m:Int)<=16384 by omega);rw [hd,Int.toNat_natCast]at hsp;have Hsp:=Lib.hid hsp;have Hd:=Lib.hid hd;have L:=ZbI T K c t0 hk3 hdk;have hcd:=Zm4 hd3;have hlt':¬ (z:Int)<=m:=by omega
  clear hz hk0 hd hsp
  go_in
  go_upto_region 6 with (with_reducible refine Fn.go λ g=>?_)
  go_cut [9,10] (λ pv ev wx=>∃(x:Nat)(p:Pt),pv=.pointer (some ⟨x,0,none⟩)/\ev=.int .i64 0/\Tr K d p g0/\Bt W h [Zd x p.cs 50,Zd (W.heap.size+1) Nd.none.cs 52,Zd W.heap.size (Nd.mk z r0).cs 52,S K c] wx)
  case first =>
   refine plZ (.q [0,1,2,3,4] (.c 5 (.y 6 10 (.q [7,8] (.f [9] (.g 10 (.x [11] (.q [12] .d))))) (.x [6] (.q [7,8] (.f [9] (.x [11] (.q [12] .d)))))))) ?_;simp only [Zk.run,pick,gZ,gS,gA,gN]
   (repeat(first|((with_reducible apply Zm);(·exact rfl);go_frame)|((with_reducible apply Zl);(·exact rfl);(·exact rfl);go_frame)|((with_reducible apply Zp);(·exact rfl);go_frame)|((with_reducible apply Zc);(·exact rfl);(·rintro _ ⟨gq,rfl⟩;exact ii);go_frame)|go_big_quiet_step (exact qZ)));refine nZ ?_
   (with_reducible apply za);(·kernel_rfl);(·rintro _ ⟨gC,rfl⟩;simp [Act.eval];exact inferInstance)
   refine⟨?_,?_⟩
   ·rintro w2 hw2;have B2:=Ze hw2;clear hw2;go_wp2_with fail;refine(Bt.call L).mono ?_;rintro e w3 ⟨v,q,rfl,⟨p,⟨rfl,rfl⟩,tp⟩,B3⟩;dsimp only at B3 ⊢;go_wp2_with fail;dsimp only [Nx]
    (repeat go_big_quiet_step (exact qZ));refine nZ ?_
    (repeat go_big_quiet_step (exact qZ));refine nZ ?_
    rintro w4 hw4;have B4:=Ze hw4;go_wp2_with fail;dsimp only [Nx];refine⟨by obtain⟨g,rfl⟩:=hw4;exact⟨_,ZK _ _ _⟩,?_⟩;clear hw4;rintro w5 hw5;have B5:=Ze hw5;clear hw5;go_wp2_with fail;dsimp only [Nx]
    (repeat go_big_quiet_step (exact qZ));refine nZ ?_
    rintro w6 hw6;have B6:=Ze hw6;clear hw6;go_wp2_with fail
    go_meet
    exact⟨_,p,rfl,rfl,tp,B6⟩
   ·rintro w2 hw2;have B2:=Ze hw2;go_wp2_with fail;dsimp only [Nx];refine⟨by obtain⟨g,rfl⟩:=hw2;exact⟨_,ZK _ _ _⟩,?_⟩;clear hw2;rintro w3 hw3;have B3:=Ze hw3;clear hw3;go_wp2_with fail;refine(Bt.call L).mono ?_;rintro e w4 ⟨v,q,rfl,⟨p,⟨rfl,rfl⟩,tp⟩,B4⟩;dsimp only at B4 ⊢;go_wp2_with fail;dsimp only [Nx]
    (repeat go_big_quiet_step (exact qZ));refine nZ ?_
    (repeat go_big_quiet_step (exact qZ));refine nZ ?_
    rintro w5 hw5;have B5:=Ze hw5;clear hw5;go_wp2_with fail;dsimp only [Nx]
    (repeat go_big_quiet_step (exact qZ));refine nZ ?_
    rintro w6 hw6;have B6:=Ze hw6;clear hw6;go_wp2_with fail
    go_meet
    exact⟨_,p,rfl,rfl,tp,B6⟩
  case rest =>
   obtain⟨x,p,rfl,rfl,tp,B⟩:=hcut;have HC:∀ y:Int,y=((m+255)/256:Nat)->_:=λ y hy=>ZlC T d K c p g0 y tp hd3 (by omega) (by omega) (by omega)
   go_wp2_with fail;refine plZ (.q [0,1,2,3,4,5,6,7] (.x [8] (.q [9,10] (.f [11] (.x [12] (.q [13] .d)))))) ?_;simp only [Zk.run,pick,gZ,gS,gA,gN]
   (try go_frame)
   (repeat(first|((with_reducible apply Zm);(·exact rfl);go_frame)|((with_reducible apply Zl);(·exact rfl);(·exact rfl);go_frame)|((with_reducible apply Zp);(·exact rfl);go_frame)|((with_reducible apply Zc);(·exact rfl);(·rintro _ ⟨gq,rfl⟩;exact ii);go_frame)|go_big_quiet_step (exact qZ)));refine nZ ?_
   rintro w2 hw2;have B2:=Ze hw2;clear hw2;go_wp2_with fail;refine(Bt.call (HC _ (by omega))).mono ?_;rintro e w3 ⟨v,q,rfl,hR,B3⟩;dsimp only at B3 ⊢;rcases hR with ⟨e,he,rfl,rfl⟩|⟨p1,K1,rfl,rfl,hK1,t1⟩
   ·go_wp2_with fail;dsimp only [Nx]
    (repeat go_big_quiet_step (exact qZ));refine nZ ?_
    (repeat go_big_quiet_step (exact qZ));refine nZ ?_
    refine Z4 ?_;intro w2 B2;go_wp2_with(with_reducible apply Zj);dsimp only [Nx];(repeat go_big_quiet_step (exact qZ));refine nZ ?_;(first|(rintro w3 hw3;have B3:=Ze hw3;clear hw3)|rintro g3);go_wp2_with(with_reducible apply Zj)
    (refine bodyPost_ret (YR rfl _ _ _ _ rfl ii) rfl ?_)
    (first|apply Zv|apply Zu)
    exact⟨.inl ⟨e,he,rfl,rfl⟩,(Bt.fin (p:=S K (c-cC d))).mono λ h q=>T.less _ _ _ (by omega) h q⟩
   ·have o1:ObW K1 ⟨m,p1⟩ (Kg g0 (256*(((m+255)/256:Nat):Int))):=by
     refine⟨by dsimp only;omega,?_,λ j hj=>if_neg ?_⟩
     ·dsimp only;rw [Hd.out,Int.toNat_natCast]
      first|exact t1|exact t1.congr λ j hj=>by congr 1;omega
     ·have h1:=Hsp.out;dsimp only at hj;rw [Hd.out,Int.toNat_natCast]at hj;unfold span at *
      omega
    have P:=ZcJ T K1 (c-cC d) o1 (λ j hj=>if_neg (by omega)) (by omega);clear t1 o1;go_wp2_with fail;dsimp only [Nx]
    (repeat go_big_quiet_step (exact qZ));refine nZ ?_
    (repeat go_big_quiet_step (exact qZ));refine nZ ?_
    refine Z4 ?_;intro w2 B2;go_wp2_with(first|((with_reducible apply Za);(·exact rfl);(·exact ii))|((with_reducible apply Xb);(·exact rfl);(·exact rfl)));dsimp only [Nx];(repeat go_big_quiet_step (exact qZ));refine nZ ?_;(first|(rintro w3 hw3;have B3:=Ze hw3;clear hw3)|rintro g3);go_wp2_with(first|((with_reducible apply Za);(·exact rfl);(·exact ii))|((with_reducible apply Xb);(·exact rfl);(·exact rfl)));refine(Bt.call P).mono ?_;rintro e w6 ⟨v,q,rfl,hR,B6⟩;dsimp only at B6 ⊢;rcases hR with ⟨e,he,rfl,rfl⟩|⟨p2,K2,rfl,rfl,hK2,hz2,o2⟩
    ·go_wp2_with fail
     (refine bodyPost_ret (YR rfl _ _ _ _ rfl ii) rfl ?_)
     (first|apply Zv|apply Zu)
     exact⟨.inl ⟨e,he,rfl,rfl⟩,(Bt.fin (p:=S K1 (c-cC d-4))).mono λ h q=>T.sub _ _ _ hK1 h (T.less _ _ _ (by omega) h q)⟩
    ·have O2:=Lib.hid (And.intro hz2 o2);clear o2 hz2;go_wp2_with fail
     (refine bodyPost_ret (YR rfl _ _ _ _ rfl ii) rfl ?_)
     (first|apply Zv|apply Zu)
     refine⟨.inr ⟨p2,K2,rfl,rfl,hK1.trans hK2,O2.out.1,O2.out.2.congr λ j=>?_⟩,(Bt.fin (p:=S K2 (c-cC d-4))).mono λ h q=>T.less _ _ _ (by omega) h q⟩;unfold Kg;split
     ·rw [if_pos (by omega)]
     ·rfl
 ·have G:=ZaP T K c o m hm (by omega);have hz:=o.z;have hmx:(max z m:Nat)=m:=by omega
  rw [hmx]at G;have hge':(z:Int)<=m:=by omega
  go_in
  go_wp2_with((with_reducible apply Za);(·exact rfl);(·exact ii));refine(Bt.call G).mono ?_;rintro e w1 ⟨v,q,rfl,hR,B1⟩;dsimp only at B1 ⊢;rcases hR with ⟨e,he,rfl,rfl⟩|⟨p1,K1,rfl,rfl,hK1,hz1,o1⟩
  ·go_wp2_with fail
   (refine bodyPost_ret (YR rfl _ _ _ _ rfl ii) rfl ?_)
   (first|apply Zv|apply Zu)
   exact⟨.inl ⟨e,he,rfl,rfl⟩,(Bt.fin (p:=S K (c-3))).mono λ h q=>T.less _ _ _ (by omega) h q⟩
  ·have O1:=Lib.hid (And.intro hz1 o1);clear o1 hz1;go_wp2_with fail
   (refine bodyPost_ret (YR rfl _ _ _ _ rfl ii) rfl ?_)
   (first|apply Zv|apply Zu)
   refine⟨.inr ⟨p1,K1,rfl,rfl,hK1,O1.out.1,O1.out.2.congr λ j=>?_⟩,(Bt.fin (p:=S K1 (c-3))).mono λ h q=>T.less _ _ _ (by omega) h q⟩;unfold Kg;split
   ·rfl
   ·exact(hz j (by show (z:Int)<=j;omega)).symm
end
end Go.Proofs.YtlfjdjndhcmliaaGreatDoor
