/- WholeOld, part 16. -/
import Derived.Test.YtlfjdjndhcmliaaGreatDoorA15
set_option maxRecDepth 100000
set_option maxHeartbeats 4000000
set_option linter.all false
namespace Go.Proofs.YtlfjdjndhcmliaaGreatDoor
open Go.RowKit Go.Sort
instance(priority:=low) Zoj(W:World)(b:Nat)(l:Nat->Pt)[k:Zh W b (YN l)]:JP b l W:=by
 obtain⟨t,e⟩:=k.get;exact⟨k.old,t,e⟩
theorem Zcx(s:ByteArray)(j:Nat):ZH (QG s 64) j=ZH s j:=by
 unfold QG;rw [Yp,YM];split
 ·rfl
 ·rw [ZA (by omega)]
theorem ZbN{s:ByteArray}(h0:s.size≠0)(h2:s.size<=256):(QG s 64).size≠0/\(QG s 64).size%64=0/\(QG s 64).size<=256:=by
 unfold QG;rw [Zs,Zr];omega
theorem KN{l:Nat->Pt}{k:Nat}{p:Pt}(hk:k<4)(hp:p.isNone=false):yg (upd l k p) Y9=false:=by
 cases h:yg (upd l k p) Y9
 ·rfl
 ·have:=(qL _ _).1 h k hk;have e:upd l k p k=p:=if_pos rfl;rw [e]at this;rw [this]at hp;exact absurd hp (by rw [show Y9 k=Pt.none from rfl,Pt.none_isNone];decide)
section
variable{st:Nat}{S:KS->Nat->SP}(T:VT st S)
include T
theorem VT.fit4{K:KS}{c:Nat}{W w:World}{h:Hl}{L:List SP}[B:Bt W h L w][m:Zd7 L (S K c)]{l:Nat->Pt}(hf:Qi l){n k:Nat}{p:Pt}{g:Nat->UInt8}(t:Tr K n p g)(hp:p.isNone=false):Qi (upd l k p):=by
 refine⟨λ j=>?_⟩
 by_cases e:j=k
 ·subst e;have e2:upd l j p j=p:=if_pos rfl;rw [e2];rcases t.lv with rfl|⟨_,_,t',ht⟩
  ·rw [Pt.none_isNone]at hp;cases hp
  ·obtain⟨i,e3⟩:=m.e;obtain⟨h0,q,_⟩:=B.mem e3;exact(T.fit K c h0 p t' q ht).h
 ·have e2:upd l k p j=l j:=if_neg e;rw [e2];exact hf.h j
theorem Zil(K:KS)(c:Nat)(p:Pt)(g:Nat->UInt8)(s:ByteArray)(hc:1<=c)(h0:s.size≠0)(h2:s.size<=256):Tq 171 #[Jv st,.agg p.cs,.int .i64 0,.int .i64 0,.string s] (S K c) (RP S K (c-1) λ p' K'=>p'.isNone=false/\Tr K' 0 p' (zO g 0 s)):=by
 haveI:Sz4 s:=⟨by omega⟩
 have HD:=Zdt s;unfold ZdG at HD;rw [if_pos h2]at HD;obtain⟨f0,f4,f2⟩:=ZbN h0 h2;have P:=T.put K c (QG s 64) 0 hc (by omega) f0 f4 f2;have hne:s.toList.isEmpty=false:=Yg h0
 have fb:∀ j,j<256->zO g 0 s j=ZH (QG s 64) j:=λ j hj=>by
  rw [Zcx,zO,if_pos (by omega)];rfl
 have Fb:=Lib.hid fb;have Fz:=Lib.hid (And.intro f0 (And.intro f4 f2));clear fb f0 f4 f2;refine Tq.of λ W h B=>?_
 go_in
 go_wp2_with fail;refine plZ (.q [0,1,2,3,4,5,6] (.x [7] (.q [8,9] (.x [10] (.q [11] .d))))) ?_;simp only [Zk.run,pick,gZ,gS,gA,gN]
 (try go_frame)
 (repeat(first|((with_reducible apply Zm);(·exact rfl);go_frame)|((with_reducible apply Zl);(·exact rfl);(·exact rfl);go_frame)|((with_reducible apply Zp);(·exact rfl);go_frame)|((with_reducible apply Zc);(·exact rfl);(·rintro _ ⟨gq,rfl⟩;exact ii);go_frame)|go_big_quiet_step (exact qZ)));refine nZ ?_
 rintro w2 hw2;have B2:=Ze hw2;clear hw2;go_wp2_with fail;refine(Bt.call P).mono ?_;rintro e w3 ⟨v,q,rfl,hR,B3⟩;dsimp only at B3 ⊢;rcases hR with ⟨e,he,rfl,rfl⟩|⟨p,rfl,⟨hp,hlv⟩,rfl⟩
 ·go_wp2_with fail;dsimp only [Nx]
  (repeat go_big_quiet_step (exact qZ));refine nZ ?_
  refine Z4 ?_;intro w2 B2;go_wp2_with fail;dsimp only [Nx];(repeat go_big_quiet_step (exact qZ));refine nZ ?_;(first|(rintro w3 hw3;have B3:=Ze hw3;clear hw3)|rintro g3);go_wp2_with fail
  (refine bodyPost_ret (YQ rfl _ _ _ _ rfl ii) rfl ?_)
  exact⟨_,_,rfl,.inl ⟨e,he,rfl,rfl⟩,Bt.fin⟩
 ·have Hp:=Lib.hid hp;have Hl:=Lib.hid hlv;clear hp hlv;go_wp2_with fail;dsimp only [Nx]
  (repeat go_big_quiet_step (exact qZ));refine nZ ?_
  refine Z4 ?_;intro w2 B2;go_wp2_with fail;dsimp only [Nx];(repeat go_big_quiet_step (exact qZ));refine nZ ?_;(first|(rintro w3 hw3;have B3:=Ze hw3;clear hw3)|rintro g3);go_wp2_with fail
  (refine bodyPost_ret (YQ rfl _ _ _ _ rfl ii) rfl ?_)
  exact⟨_,_,rfl,.inr ⟨p,_,rfl,rfl,K.le_add _ _,Hp.out,.inr ⟨Hp.out,Hl.out,_,K.add_at _ _,Fz.out,Fb.out⟩⟩,Bt.fin⟩
theorem JO:∀(n:Nat)(K:KS)(c:Nat)(p:Pt)(g:Nat->UInt8)(i:Nat)(s:ByteArray),Tr K n p g->n<=3->i<bl n->n+1<=c->s.size≠0->s.size<=256 ->
  Tq 171 #[Jv st,.agg p.cs,.int .i64 (n:Nat),.int .i64 (i:Nat),.string s] (S K c) (RP S K (c-(n+1)) λ p' K'=>p'.isNone=false/\Tr K' n p' (zO g i s))
 |0,K,c,p,g,i,s,_,_,hi,hc,h0,h2=>by
  obtain rfl:i=0:=by simp only [bl]at hi;omega
  exact Zil T K c p g s hc h0 h2
 |n+1,K,c,p,g,i,s,t,hn,hk,hc,h0,h2=>by
  have L:=zh T K c t (by omega);have BL:=KZ ((n:Int)+1) n rfl (by omega);have hm:=Zdd i n;have hbp:=Uc n;have hbl:bl n<=16:=ye (show n<=2 by omega);have hib:i<64:=Nat.lt_of_lt_of_le hk (ye (show n+1<=3 by omega));have hmod:i%bl n<bl n:=Nat.mod_lt _ hbp;refine Tq.of λ W h B=>?_
  go_in
  go_wp2_with((with_reducible apply Za);(·exact rfl);(·exact ii));refine(Bt.call L).mono ?_;rintro e w1 ⟨v,q,rfl,⟨l,⟨rfl,rfl⟩,hf,_,hl⟩,B1⟩;dsimp only at B1 ⊢;have he1:(((n+1:Nat):Int))=(n:Int)+1:=by omega
  rcases four (show n<3 by omega) hk with hj|hj|hj|hj
  ·have hd:=Jt hj;have IH:=JO n K c (l 0) _ (i%bl n) s (hl 0 (by omega)) (by omega) hmod (by omega) h0 h2;have Hj:=Lib.hid hj;have Hl:=Lib.hid hl;clear hj hl;go_wp2_with(with_reducible refine Fn.go λ g=>?_);refine plZ (.q [1,2,3,4,5,6,7,8,9,10,11] (.f [0] (.x [12] (.q [13,14,16] (.f [15] (.x [17] (.q [18] .d))))))) ?_;simp only [Zk.run,pick,gZ,gS,gA,gN]
   (try go_frame)
   (repeat(first|((with_reducible apply Zm);(·exact rfl);go_frame)|((with_reducible apply Zl);(·exact rfl);(·exact rfl);go_frame)|((with_reducible apply Zp);(·exact rfl);go_frame)|((with_reducible apply Zc);(·exact rfl);(·rintro _ ⟨gq,rfl⟩;exact ii);go_frame)|go_big_quiet_step (exact qZ)));refine nZ ?_
   (repeat(first|((with_reducible apply Zm);(·exact rfl);go_frame)|((with_reducible apply Zl);(·exact rfl);(·exact rfl);go_frame)|((with_reducible apply Zp);(·exact rfl);go_frame)|((with_reducible apply Zc);(·exact rfl);(·rintro _ ⟨gq,rfl⟩;exact ii);go_frame)|go_big_quiet_step (exact qZ)));refine nZ ?_
   rintro w2 hw2;have B2:=Ze hw2;clear hw2;go_wp2_with fail;refine(Bt.call IH).mono ?_;rintro e w3 ⟨v,q,rfl,hR,B3⟩;dsimp only at B3 ⊢;rcases hR with ⟨e,he,rfl,rfl⟩|⟨p',K1,rfl,rfl,hK1,hp',tp⟩
   ·go_wp2_with fail;dsimp only [Nx]
    (repeat go_big_quiet_step (exact qZ));refine nZ ?_
    (repeat go_big_quiet_step (exact qZ));refine nZ ?_
    refine Z4 ?_;intro w2 B2;go_wp2_with(first|((with_reducible apply Zb);(·exact rfl);(·exact rfl);(·exact ii))|(with_reducible apply Zj));dsimp only [Nx];(repeat go_big_quiet_step (exact qZ));refine nZ ?_;(first|(rintro w3 hw3;have B3:=Ze hw3;clear hw3)|rintro g3);go_wp2_with(first|((with_reducible apply Zb);(·exact rfl);(·exact rfl);(·exact ii))|(with_reducible apply Zj))
    (refine bodyPost_ret (YQ rfl _ _ _ _ rfl ii) rfl ?_)
    exact⟨_,_,rfl,.inl ⟨e,he,rfl,rfl⟩,(Bt.fin (p:=S K (c-(n+1)))).mono λ h q=>T.less _ _ _ (by omega) h q⟩
   ·haveI:Qi (upd l 0 p'):=T.fit4 (w:=w3) (K:=K1) (c:=c-(n+1)) hf tp hp';have P:=js T K1 (c-(n+1)) (upd l 0 p') (n+1) hn (by omega) (KN (by omega) hp');rw [he1]at P;have Tp:=Lib.hid tp;have Hp:=Lib.hid hp';clear hp' tp;go_wp2_with fail;dsimp only [Nx]
    (repeat go_big_quiet_step (exact qZ));refine nZ ?_
    (repeat go_big_quiet_step (exact qZ));refine nZ ?_
    refine Z4 ?_;intro w2 B2;go_wp2_with(first|((with_reducible apply Za);(·exact rfl);(·exact ii))|((with_reducible apply Zb);(·exact rfl);(·exact rfl);(·exact ii)));dsimp only [Nx];(repeat go_big_quiet_step (exact qZ));refine nZ ?_;(first|(rintro w3 hw3;have B3:=Ze hw3;clear hw3)|rintro g3);go_wp2_with(first|((with_reducible apply Za);(·exact rfl);(·exact ii))|((with_reducible apply Zb);(·exact rfl);(·exact rfl);(·exact ii)));refine(Bt.call P).mono ?_;rintro e w4 ⟨v,q,rfl,hR,B4⟩;dsimp only at B4 ⊢;rcases hR with ⟨e,he,rfl,rfl⟩|⟨p2,K2,rfl,rfl,hK2,hp2,hv2,hx2⟩
    ·go_wp2_with fail
     (refine bodyPost_ret (YQ rfl _ _ _ _ rfl ii) rfl ?_)
     exact⟨_,_,rfl,.inl ⟨e,he,rfl,rfl⟩,(Bt.fin (p:=S K1 (c-(n+1)-1))).mono λ h q=>T.sub _ _ _ hK1 h (T.less _ _ _ (by omega) h q)⟩
    ·have Hx:=Lib.hid (And.intro hp2 (And.intro hv2 hx2));clear hp2 hv2 hx2;go_wp2_with fail
     (refine bodyPost_ret (YQ rfl _ _ _ _ rfl ii) rfl ?_)
     obtain⟨hp2,hv2,hx2⟩:=Hx.out;refine⟨_,_,rfl,.inr ⟨p2,K2,rfl,rfl,hK1.trans hK2,hp2,?_⟩,(Bt.fin (p:=S K2 (c-(n+1)-1))).mono λ h q=>T.less _ _ _ (by omega) h q⟩;have hj:=Hj.out;have tp:=Tp.out.mono hK2;rw [<-hj]at tp hx2;exact Tr.set (by omega) (λ k hk=>(Hl.out k hk).mono (hK1.trans hK2)) tp hp2 hv2 (by rw [hj];infer_instance) hx2
  ·have hd:=Jt hj;have IH:=JO n K c (l 1) _ (i%bl n) s (hl 1 (by omega)) (by omega) hmod (by omega) h0 h2;have Hj:=Lib.hid hj;have Hl:=Lib.hid hl;clear hj hl;go_wp2_with(with_reducible refine Fn.go λ g=>?_);refine plZ (.q [1,2,3,4,5,6,7,8,9,10,11] (.f [0] (.x [12] (.q [13,14,16] (.f [15] (.x [17] (.q [18] .d))))))) ?_;simp only [Zk.run,pick,gZ,gS,gA,gN]
   (try go_frame)
   (repeat(first|((with_reducible apply Zm);(·exact rfl);go_frame)|((with_reducible apply Zl);(·exact rfl);(·exact rfl);go_frame)|((with_reducible apply Zp);(·exact rfl);go_frame)|((with_reducible apply Zc);(·exact rfl);(·rintro _ ⟨gq,rfl⟩;exact ii);go_frame)|go_big_quiet_step (exact qZ)));refine nZ ?_
   (repeat(first|((with_reducible apply Zm);(·exact rfl);go_frame)|((with_reducible apply Zl);(·exact rfl);(·exact rfl);go_frame)|((with_reducible apply Zp);(·exact rfl);go_frame)|((with_reducible apply Zc);(·exact rfl);(·rintro _ ⟨gq,rfl⟩;exact ii);go_frame)|go_big_quiet_step (exact qZ)));refine nZ ?_
   rintro w2 hw2;have B2:=Ze hw2;clear hw2;go_wp2_with fail;refine(Bt.call IH).mono ?_;rintro e w3 ⟨v,q,rfl,hR,B3⟩;dsimp only at B3 ⊢;rcases hR with ⟨e,he,rfl,rfl⟩|⟨p',K1,rfl,rfl,hK1,hp',tp⟩
   ·go_wp2_with fail;dsimp only [Nx]
    (repeat go_big_quiet_step (exact qZ));refine nZ ?_
    (repeat go_big_quiet_step (exact qZ));refine nZ ?_
    refine Z4 ?_;intro w2 B2;go_wp2_with(first|((with_reducible apply Zb);(·exact rfl);(·exact rfl);(·exact ii))|(with_reducible apply Zj));dsimp only [Nx];(repeat go_big_quiet_step (exact qZ));refine nZ ?_;(first|(rintro w3 hw3;have B3:=Ze hw3;clear hw3)|rintro g3);go_wp2_with(first|((with_reducible apply Zb);(·exact rfl);(·exact rfl);(·exact ii))|(with_reducible apply Zj))
    (refine bodyPost_ret (YQ rfl _ _ _ _ rfl ii) rfl ?_)
    exact⟨_,_,rfl,.inl ⟨e,he,rfl,rfl⟩,(Bt.fin (p:=S K (c-(n+1)))).mono λ h q=>T.less _ _ _ (by omega) h q⟩
   ·haveI:Qi (upd l 1 p'):=T.fit4 (w:=w3) (K:=K1) (c:=c-(n+1)) hf tp hp';have P:=js T K1 (c-(n+1)) (upd l 1 p') (n+1) hn (by omega) (KN (by omega) hp');rw [he1]at P;have Tp:=Lib.hid tp;have Hp:=Lib.hid hp';clear hp' tp;go_wp2_with fail;dsimp only [Nx]
    (repeat go_big_quiet_step (exact qZ));refine nZ ?_
    (repeat go_big_quiet_step (exact qZ));refine nZ ?_
    refine Z4 ?_;intro w2 B2;go_wp2_with(first|((with_reducible apply Za);(·exact rfl);(·exact ii))|((with_reducible apply Zb);(·exact rfl);(·exact rfl);(·exact ii)));dsimp only [Nx];(repeat go_big_quiet_step (exact qZ));refine nZ ?_;(first|(rintro w3 hw3;have B3:=Ze hw3;clear hw3)|rintro g3);go_wp2_with(first|((with_reducible apply Za);(·exact rfl);(·exact ii))|((with_reducible apply Zb);(·exact rfl);(·exact rfl);(·exact ii)));refine(Bt.call P).mono ?_;rintro e w4 ⟨v,q,rfl,hR,B4⟩;dsimp only at B4 ⊢;rcases hR with ⟨e,he,rfl,rfl⟩|⟨p2,K2,rfl,rfl,hK2,hp2,hv2,hx2⟩
    ·go_wp2_with fail
     (refine bodyPost_ret (YQ rfl _ _ _ _ rfl ii) rfl ?_)
     exact⟨_,_,rfl,.inl ⟨e,he,rfl,rfl⟩,(Bt.fin (p:=S K1 (c-(n+1)-1))).mono λ h q=>T.sub _ _ _ hK1 h (T.less _ _ _ (by omega) h q)⟩
    ·have Hx:=Lib.hid (And.intro hp2 (And.intro hv2 hx2));clear hp2 hv2 hx2;go_wp2_with fail
     (refine bodyPost_ret (YQ rfl _ _ _ _ rfl ii) rfl ?_)
     obtain⟨hp2,hv2,hx2⟩:=Hx.out;refine⟨_,_,rfl,.inr ⟨p2,K2,rfl,rfl,hK1.trans hK2,hp2,?_⟩,(Bt.fin (p:=S K2 (c-(n+1)-1))).mono λ h q=>T.less _ _ _ (by omega) h q⟩;have hj:=Hj.out;have tp:=Tp.out.mono hK2;rw [<-hj]at tp hx2;exact Tr.set (by omega) (λ k hk=>(Hl.out k hk).mono (hK1.trans hK2)) tp hp2 hv2 (by rw [hj];infer_instance) hx2
  ·have hd:=Jt hj;have IH:=JO n K c (l 2) _ (i%bl n) s (hl 2 (by omega)) (by omega) hmod (by omega) h0 h2;have Hj:=Lib.hid hj;have Hl:=Lib.hid hl;clear hj hl;go_wp2_with(with_reducible refine Fn.go λ g=>?_);refine plZ (.q [1,2,3,4,5,6,7,8,9,10,11] (.f [0] (.x [12] (.q [13,14,16] (.f [15] (.x [17] (.q [18] .d))))))) ?_;simp only [Zk.run,pick,gZ,gS,gA,gN]
   (try go_frame)
   (repeat(first|((with_reducible apply Zm);(·exact rfl);go_frame)|((with_reducible apply Zl);(·exact rfl);(·exact rfl);go_frame)|((with_reducible apply Zp);(·exact rfl);go_frame)|((with_reducible apply Zc);(·exact rfl);(·rintro _ ⟨gq,rfl⟩;exact ii);go_frame)|go_big_quiet_step (exact qZ)));refine nZ ?_
   (repeat(first|((with_reducible apply Zm);(·exact rfl);go_frame)|((with_reducible apply Zl);(·exact rfl);(·exact rfl);go_frame)|((with_reducible apply Zp);(·exact rfl);go_frame)|((with_reducible apply Zc);(·exact rfl);(·rintro _ ⟨gq,rfl⟩;exact ii);go_frame)|go_big_quiet_step (exact qZ)));refine nZ ?_
   rintro w2 hw2;have B2:=Ze hw2;clear hw2;go_wp2_with fail;refine(Bt.call IH).mono ?_;rintro e w3 ⟨v,q,rfl,hR,B3⟩;dsimp only at B3 ⊢;rcases hR with ⟨e,he,rfl,rfl⟩|⟨p',K1,rfl,rfl,hK1,hp',tp⟩
   ·go_wp2_with fail;dsimp only [Nx]
    (repeat go_big_quiet_step (exact qZ));refine nZ ?_
    (repeat go_big_quiet_step (exact qZ));refine nZ ?_
    refine Z4 ?_;intro w2 B2;go_wp2_with(first|((with_reducible apply Zb);(·exact rfl);(·exact rfl);(·exact ii))|(with_reducible apply Zj));dsimp only [Nx];(repeat go_big_quiet_step (exact qZ));refine nZ ?_;(first|(rintro w3 hw3;have B3:=Ze hw3;clear hw3)|rintro g3);go_wp2_with(first|((with_reducible apply Zb);(·exact rfl);(·exact rfl);(·exact ii))|(with_reducible apply Zj))
    (refine bodyPost_ret (YQ rfl _ _ _ _ rfl ii) rfl ?_)
    exact⟨_,_,rfl,.inl ⟨e,he,rfl,rfl⟩,(Bt.fin (p:=S K (c-(n+1)))).mono λ h q=>T.less _ _ _ (by omega) h q⟩
   ·haveI:Qi (upd l 2 p'):=T.fit4 (w:=w3) (K:=K1) (c:=c-(n+1)) hf tp hp';have P:=js T K1 (c-(n+1)) (upd l 2 p') (n+1) hn (by omega) (KN (by omega) hp');rw [he1]at P;have Tp:=Lib.hid tp;have Hp:=Lib.hid hp';clear hp' tp;go_wp2_with fail;dsimp only [Nx]
    (repeat go_big_quiet_step (exact qZ));refine nZ ?_
    (repeat go_big_quiet_step (exact qZ));refine nZ ?_
    refine Z4 ?_;intro w2 B2;go_wp2_with(first|((with_reducible apply Za);(·exact rfl);(·exact ii))|((with_reducible apply Zb);(·exact rfl);(·exact rfl);(·exact ii)));dsimp only [Nx];(repeat go_big_quiet_step (exact qZ));refine nZ ?_;(first|(rintro w3 hw3;have B3:=Ze hw3;clear hw3)|rintro g3);go_wp2_with(first|((with_reducible apply Za);(·exact rfl);(·exact ii))|((with_reducible apply Zb);(·exact rfl);(·exact rfl);(·exact ii)));refine(Bt.call P).mono ?_;rintro e w4 ⟨v,q,rfl,hR,B4⟩;dsimp only at B4 ⊢;rcases hR with ⟨e,he,rfl,rfl⟩|⟨p2,K2,rfl,rfl,hK2,hp2,hv2,hx2⟩
    ·go_wp2_with fail
     (refine bodyPost_ret (YQ rfl _ _ _ _ rfl ii) rfl ?_)
     exact⟨_,_,rfl,.inl ⟨e,he,rfl,rfl⟩,(Bt.fin (p:=S K1 (c-(n+1)-1))).mono λ h q=>T.sub _ _ _ hK1 h (T.less _ _ _ (by omega) h q)⟩
    ·have Hx:=Lib.hid (And.intro hp2 (And.intro hv2 hx2));clear hp2 hv2 hx2;go_wp2_with fail
     (refine bodyPost_ret (YQ rfl _ _ _ _ rfl ii) rfl ?_)
     obtain⟨hp2,hv2,hx2⟩:=Hx.out;refine⟨_,_,rfl,.inr ⟨p2,K2,rfl,rfl,hK1.trans hK2,hp2,?_⟩,(Bt.fin (p:=S K2 (c-(n+1)-1))).mono λ h q=>T.less _ _ _ (by omega) h q⟩;have hj:=Hj.out;have tp:=Tp.out.mono hK2;rw [<-hj]at tp hx2;exact Tr.set (by omega) (λ k hk=>(Hl.out k hk).mono (hK1.trans hK2)) tp hp2 hv2 (by rw [hj];infer_instance) hx2
  ·have hd:=Jt hj;have IH:=JO n K c (l 3) _ (i%bl n) s (hl 3 (by omega)) (by omega) hmod (by omega) h0 h2;have Hj:=Lib.hid hj;have Hl:=Lib.hid hl;clear hj hl;go_wp2_with(with_reducible refine Fn.go λ g=>?_);refine plZ (.q [1,2,3,4,5,6,7,8,9,10,11] (.f [0] (.x [12] (.q [13,14,16] (.f [15] (.x [17] (.q [18] .d))))))) ?_;simp only [Zk.run,pick,gZ,gS,gA,gN]
   (try go_frame)
   (repeat(first|((with_reducible apply Zm);(·exact rfl);go_frame)|((with_reducible apply Zl);(·exact rfl);(·exact rfl);go_frame)|((with_reducible apply Zp);(·exact rfl);go_frame)|((with_reducible apply Zc);(·exact rfl);(·rintro _ ⟨gq,rfl⟩;exact ii);go_frame)|go_big_quiet_step (exact qZ)));refine nZ ?_
   (repeat(first|((with_reducible apply Zm);(·exact rfl);go_frame)|((with_reducible apply Zl);(·exact rfl);(·exact rfl);go_frame)|((with_reducible apply Zp);(·exact rfl);go_frame)|((with_reducible apply Zc);(·exact rfl);(·rintro _ ⟨gq,rfl⟩;exact ii);go_frame)|go_big_quiet_step (exact qZ)));refine nZ ?_
   rintro w2 hw2;have B2:=Ze hw2;clear hw2;go_wp2_with fail;refine(Bt.call IH).mono ?_;rintro e w3 ⟨v,q,rfl,hR,B3⟩;dsimp only at B3 ⊢;rcases hR with ⟨e,he,rfl,rfl⟩|⟨p',K1,rfl,rfl,hK1,hp',tp⟩
   ·go_wp2_with fail;dsimp only [Nx]
    (repeat go_big_quiet_step (exact qZ));refine nZ ?_
    (repeat go_big_quiet_step (exact qZ));refine nZ ?_
    refine Z4 ?_;intro w2 B2;go_wp2_with(first|((with_reducible apply Zb);(·exact rfl);(·exact rfl);(·exact ii))|(with_reducible apply Zj));dsimp only [Nx];(repeat go_big_quiet_step (exact qZ));refine nZ ?_;(first|(rintro w3 hw3;have B3:=Ze hw3;clear hw3)|rintro g3);go_wp2_with(first|((with_reducible apply Zb);(·exact rfl);(·exact rfl);(·exact ii))|(with_reducible apply Zj))
    (refine bodyPost_ret (YQ rfl _ _ _ _ rfl ii) rfl ?_)
    exact⟨_,_,rfl,.inl ⟨e,he,rfl,rfl⟩,(Bt.fin (p:=S K (c-(n+1)))).mono λ h q=>T.less _ _ _ (by omega) h q⟩
   ·haveI:Qi (upd l 3 p'):=T.fit4 (w:=w3) (K:=K1) (c:=c-(n+1)) hf tp hp';have P:=js T K1 (c-(n+1)) (upd l 3 p') (n+1) hn (by omega) (KN (by omega) hp');rw [he1]at P;have Tp:=Lib.hid tp;have Hp:=Lib.hid hp';clear hp' tp;go_wp2_with fail;dsimp only [Nx]
    (repeat go_big_quiet_step (exact qZ));refine nZ ?_
    (repeat go_big_quiet_step (exact qZ));refine nZ ?_
    refine Z4 ?_;intro w2 B2;go_wp2_with(first|((with_reducible apply Za);(·exact rfl);(·exact ii))|((with_reducible apply Zb);(·exact rfl);(·exact rfl);(·exact ii)));dsimp only [Nx];(repeat go_big_quiet_step (exact qZ));refine nZ ?_;(first|(rintro w3 hw3;have B3:=Ze hw3;clear hw3)|rintro g3);go_wp2_with(first|((with_reducible apply Za);(·exact rfl);(·exact ii))|((with_reducible apply Zb);(·exact rfl);(·exact rfl);(·exact ii)));refine(Bt.call P).mono ?_;rintro e w4 ⟨v,q,rfl,hR,B4⟩;dsimp only at B4 ⊢;rcases hR with ⟨e,he,rfl,rfl⟩|⟨p2,K2,rfl,rfl,hK2,hp2,hv2,hx2⟩
    ·go_wp2_with fail
     (refine bodyPost_ret (YQ rfl _ _ _ _ rfl ii) rfl ?_)
     exact⟨_,_,rfl,.inl ⟨e,he,rfl,rfl⟩,(Bt.fin (p:=S K1 (c-(n+1)-1))).mono λ h q=>T.sub _ _ _ hK1 h (T.less _ _ _ (by omega) h q)⟩
    ·have Hx:=Lib.hid (And.intro hp2 (And.intro hv2 hx2));clear hp2 hv2 hx2;go_wp2_with fail
     (refine bodyPost_ret (YQ rfl _ _ _ _ rfl ii) rfl ?_)
     obtain⟨hp2,hv2,hx2⟩:=Hx.out;refine⟨_,_,rfl,.inr ⟨p2,K2,rfl,rfl,hK1.trans hK2,hp2,?_⟩,(Bt.fin (p:=S K2 (c-(n+1)-1))).mono λ h q=>T.less _ _ _ (by omega) h q⟩;have hj:=Hj.out;have tp:=Tp.out.mono hK2;rw [<-hj]at tp hx2;exact Tr.set (by omega) (λ k hk=>(Hl.out k hk).mono (hK1.trans hK2)) tp hp2 hv2 (by rw [hj];infer_instance) hx2
end
end Go.Proofs.YtlfjdjndhcmliaaGreatDoor
