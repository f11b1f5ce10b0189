/- WholeOld, part 18. -/
import Derived.Test.YtlfjdjndhcmliaaGreatDoorA16
set_option maxRecDepth 100000
set_option maxHeartbeats 4000000
set_option linter.all false
namespace Go.Proofs.YtlfjdjndhcmliaaGreatDoor
open Go.RowKit Go.Sort
instance(priority:=low) ZnY(W:World)(b:Nat)(n:Nd)(p:Pt)[k:Zh W b n.cs]:KA 50 b 1 p.cs W (W.setRow b (Nd.mk n.size p).cs):=by
 obtain⟨t,e⟩:=k.get;refine Jb (z:=12) (v:=p.cs.toList) (by kernel_rfl) rfl ?_;have hs:=run_storeCells_at Tryz.prog b 1 t p.cs.toList 0 n.cs W e (by simp [Nd.cs_size,Pt.cs_size]) (Ql p);rw [hs];rfl
theorem YH{t:ByteArray}{a b j:Nat}:ZH (t.extract a b) j=if a+j<b then ZH t (a+j)else 0:=by
 unfold ZH;simp only [ByteArray.data_extract,Array.toList_extract,List.extract_eq_take_drop,List.getD_eq_getElem?_getD,List.getElem?_take,List.getElem?_drop];split<;>split<;>first|rfl|(exfalso;omega)|skip
theorem Zfz(n:Int):∃ k:Nat,zN n=k/\k<=3:=by
 obtain⟨a,b⟩:=Ks n;exact⟨(zN n).toNat,by omega,by omega⟩
theorem KX:(⟨#[]⟩:ByteArray).size=0:=rfl
theorem Je(j:Nat):ZH ⟨#[]⟩ j=0:=rfl
theorem K6{g0:Nat->UInt8}{i from_:Nat}{s X:ByteArray}(hf:from_+s.size<=256)(hX:∀ j,j<256->ZH X j=if from_<=j/\j<from_+s.size then ZH s (j-from_)else g0 (256*i+j))(j:Nat):zO g0 i X j=jD g0 (256*i+from_) s j:=by
 unfold zO jD;split
 ·rename_i h;rw [hX _ (by omega)];split
  ·rw [if_pos (by omega)]
   congr 1;omega
  ·rw [if_neg (by omega)]
   congr 1;omega
 ·rw [if_neg (by omega)]
section
variable{st:Nat}{S:KS->Nat->SP}(T:VT st S)
include T
theorem ZjL(K:KS)(c:Nat){z:Nat}{r0:Pt}{g0:Nat->UInt8}(o:Ob K ⟨z,r0⟩ g0)(i:Nat)(hi:i<64)(from_:Nat)(s:ByteArray)(hf:from_+s.size<=256)(hs:s.size≠0)(hz:256*i+from_+s.size<=z)(hc:4<=c) :
  Tq 115 #[Jv st,.agg (Nd.mk z r0).cs,.int .i64 i,.int .i64 from_,.string s] (S K c) (RN S K (c-4) λ n' K'=>n'.size=z/\Ob K' n' (jD g0 (256*i+from_) s)):=by
 have L:=Zbe T K c o hi;obtain⟨⟨z0,z1⟩,t0,hz0⟩:=o;have z1:z<=16384:=by have:((z:Int))<=16384:=z1;omega
 obtain⟨k0,hk0,hk3⟩:=Zfz z;have t0:Tr K k0 r0 g0:=by have:(zN z).toNat=k0:=(by omega);rw [<-this];exact t0
 have V0:∀ w,Fn 161 #[.int .i64 (z:Nat)] w (.int .i64 k0):=λ w=>by have e:=Jc z w;rw [hk0]at e;exact e
 have Hz0:=Lib.hid hz0;clear hz0;refine Tq.of λ W h B=>?_
 go_in
 go_wp2_with((with_reducible apply Za);(·exact rfl);(·exact ii));refine(Bt.call L).mono ?_;rintro e w1 ⟨v,q,rfl,⟨t,⟨rfl,rfl⟩,⟨h4,h2⟩,ht⟩,B1⟩;dsimp only at B1 ⊢;have HR:=λ z hz W=>yM (from_-t.size) (by omega) z hz W
 have HD:=VI h4 h2;have Ht:=Lib.hid ht;have H4:=Lib.hid h4;clear ht h4
 have hik:i<bl k0:=by
  have:=JV (show (z:Int)<=16384 by omega);rw [hk0,Int.toNat_natCast]at this;unfold span at this;omega
 have Hk0:=Lib.hid hk0;clear hk0
 by_cases h0:t.size=0
 ·have e0:itV t=.iface 288 (.agg #[]):=if_pos h0;obtain rfl:t=⟨#[]⟩:=Yu (List.eq_nil_of_length_eq_zero (by rw [Zi];exact h0));rw [e0];clear e0 h0;rcases Nat.eq_zero_or_pos from_ with hf0|hf0
  ·subst hf0;go_wp2_with(with_reducible refine Fn.go λ g=>?_);refine plZ (.q [0,1,2,3,4,5,6,7] (.x [8] (.q [9,10,12] (.f [11] (.x [13] (.q [14] .d)))))) ?_;simp only [Zk.run,pick,gZ,gS,gA,gN]
   (try go_frame)
   (repeat(first|((with_reducible apply Zm);(·exact rfl);go_frame)|((with_reducible apply Zl);(·exact rfl);(·exact rfl);go_frame)|((with_reducible apply Zp);(·exact rfl);go_frame)|((with_reducible apply Zc);(·exact rfl);(·rintro _ ⟨gq,rfl⟩;exact ii);go_frame)|go_big_quiet_step (exact qZ)));refine nZ ?_
   rintro w2 hw2;have B2:=Ze hw2;clear hw2;go_wp2_with fail;refine(Bt.call (JO T k0 K c r0 g0 i _ t0 hk3 hik (by omega) ?_ ?_)).mono ?_
   ·first|omega|(simp only [Zs,ByteArray.size_extract,Zr];omega)
   ·first|omega|(simp only [Zs,ByteArray.size_extract,Zr];omega)
   rintro e w4 ⟨v,q,rfl,hR,B4⟩;dsimp only at B4 ⊢;rcases hR with ⟨e,he,rfl,rfl⟩|⟨p2,K2,rfl,rfl,hK2,hp2,t2⟩
   ·go_wp2_with fail;dsimp only [Nx]
    (repeat go_big_quiet_step (exact qZ));refine nZ ?_
    (repeat go_big_quiet_step (exact qZ));refine nZ ?_
    refine Z4 ?_;intro w2 B2;go_wp2_with(first|((with_reducible apply Zb);(·exact rfl);(·exact rfl);(·exact ii))|(with_reducible apply Zj));dsimp only [Nx];(repeat go_big_quiet_step (exact qZ));refine nZ ?_;(first|(rintro w3 hw3;have B3:=Ze hw3;clear hw3)|rintro g3);go_wp2_with(first|((with_reducible apply Zb);(·exact rfl);(·exact rfl);(·exact ii))|(with_reducible apply Zj))
    (refine bodyPost_ret (YR rfl _ _ _ _ rfl ii) rfl ?_)
    exact⟨_,_,rfl,.inl ⟨e,he,rfl,rfl⟩,(Bt.fin (p:=S K (c-(k0+1)))).mono λ h q=>T.less _ _ _ (by omega) h q⟩
   ·have T2:=Lib.hid t2;clear t2 hp2;go_wp2_with fail;dsimp only [Nx]
    (repeat go_big_quiet_step (exact qZ));refine nZ ?_
    (repeat go_big_quiet_step (exact qZ));refine nZ ?_
    refine Z4 ?_;intro w2 B2;go_wp2_with(first|((with_reducible apply Za);(·exact rfl);(·exact ii))|((with_reducible apply Zb);(·exact rfl);(·exact rfl);(·exact ii)));dsimp only [Nx];(repeat go_big_quiet_step (exact qZ));refine nZ ?_;(first|(rintro w3 hw3;have B3:=Ze hw3;clear hw3)|rintro g3);go_wp2_with(first|((with_reducible apply Za);(·exact rfl);(·exact ii))|((with_reducible apply Zb);(·exact rfl);(·exact rfl);(·exact ii)))
    (refine bodyPost_ret (YR rfl _ _ _ _ rfl ii) rfl ?_)
    refine⟨_,_,rfl,.inr ⟨⟨z,p2⟩,K2,rfl,rfl,hK2,rfl,⟨by dsimp only;omega,?_,λ j hj=>?_⟩⟩,(Bt.fin (p:=S K2 (c-(k0+1)))).mono λ h q=>T.less _ _ _ (by omega) h q⟩
    ·dsimp only;rw [Hk0.out,Int.toNat_natCast];exact T2.out.congr λ j hj=>(K6 hf (λ j hj=>by rw [Ht.out j hj];(simp only [Yp,YH,YM,Zs,ByteArray.size_extract,Zr,KX,Je]);(repeat' split)<;>first|rfl|(exfalso;omega)|(congr 1;omega)|(exact ZA (by omega))|(exact(ZA (by omega)).symm)|(exact(ZA (by omega)).trans (ZA (by omega)).symm)) j).symm
    ·have:(z:Int)<=j:=hj;rw [jD,if_neg (by omega)];exact Hz0.out j hj
  ·have h5:¬ from_+s.size<from_:=by omega
   go_wp2_with(with_reducible refine Fn.go λ g=>?_);refine @Fn.go _ _ _ _ _ (HR _ (by rfl) _) λ g1=>?_
   dsimp only;go_wp2_with fail;refine plZ (.q [0,1,2,3,4,5,6,7] (.x [8] (.q [9,10,12] (.f [11] (.x [13] (.q [14] .d)))))) ?_;simp only [Zk.run,pick,gZ,gS,gA,gN]
   (try go_frame)
   (repeat(first|((with_reducible apply Zm);(·exact rfl);go_frame)|((with_reducible apply Zl);(·exact rfl);(·exact rfl);go_frame)|((with_reducible apply Zp);(·exact rfl);go_frame)|((with_reducible apply Zc);(·exact rfl);(·rintro _ ⟨gq,rfl⟩;exact ii);go_frame)|go_big_quiet_step (exact qZ)));refine nZ ?_
   rintro w2 hw2;have B2:=Ze hw2;clear hw2;go_wp2_with fail;refine(Bt.call (JO T k0 K c r0 g0 i _ t0 hk3 hik (by omega) ?_ ?_)).mono ?_
   ·first|omega|(simp only [Zs,ByteArray.size_extract,Zr];omega)
   ·first|omega|(simp only [Zs,ByteArray.size_extract,Zr];omega)
   rintro e w4 ⟨v,q,rfl,hR,B4⟩;dsimp only at B4 ⊢;rcases hR with ⟨e,he,rfl,rfl⟩|⟨p2,K2,rfl,rfl,hK2,hp2,t2⟩
   ·go_wp2_with fail;dsimp only [Nx]
    (repeat go_big_quiet_step (exact qZ));refine nZ ?_
    (repeat go_big_quiet_step (exact qZ));refine nZ ?_
    refine Z4 ?_;intro w2 B2;go_wp2_with(first|((with_reducible apply Zb);(·exact rfl);(·exact rfl);(·exact ii))|(with_reducible apply Zj));dsimp only [Nx];(repeat go_big_quiet_step (exact qZ));refine nZ ?_;(first|(rintro w3 hw3;have B3:=Ze hw3;clear hw3)|rintro g3);go_wp2_with(first|((with_reducible apply Zb);(·exact rfl);(·exact rfl);(·exact ii))|(with_reducible apply Zj))
    (refine bodyPost_ret (YR rfl _ _ _ _ rfl ii) rfl ?_)
    exact⟨_,_,rfl,.inl ⟨e,he,rfl,rfl⟩,(Bt.fin (p:=S K (c-(k0+1)))).mono λ h q=>T.less _ _ _ (by omega) h q⟩
   ·have T2:=Lib.hid t2;clear t2 hp2;go_wp2_with fail;dsimp only [Nx]
    (repeat go_big_quiet_step (exact qZ));refine nZ ?_
    (repeat go_big_quiet_step (exact qZ));refine nZ ?_
    refine Z4 ?_;intro w2 B2;go_wp2_with(first|((with_reducible apply Za);(·exact rfl);(·exact ii))|((with_reducible apply Zb);(·exact rfl);(·exact rfl);(·exact ii)));dsimp only [Nx];(repeat go_big_quiet_step (exact qZ));refine nZ ?_;(first|(rintro w3 hw3;have B3:=Ze hw3;clear hw3)|rintro g3);go_wp2_with(first|((with_reducible apply Za);(·exact rfl);(·exact ii))|((with_reducible apply Zb);(·exact rfl);(·exact rfl);(·exact ii)))
    (refine bodyPost_ret (YR rfl _ _ _ _ rfl ii) rfl ?_)
    refine⟨_,_,rfl,.inr ⟨⟨z,p2⟩,K2,rfl,rfl,hK2,rfl,⟨by dsimp only;omega,?_,λ j hj=>?_⟩⟩,(Bt.fin (p:=S K2 (c-(k0+1)))).mono λ h q=>T.less _ _ _ (by omega) h q⟩
    ·dsimp only;rw [Hk0.out,Int.toNat_natCast];exact T2.out.congr λ j hj=>(K6 hf (λ j hj=>by rw [Ht.out j hj];(simp only [Yp,YH,YM,Zs,ByteArray.size_extract,Zr,KX,Je]);(repeat' split)<;>first|rfl|(exfalso;omega)|(congr 1;omega)|(exact ZA (by omega))|(exact(ZA (by omega)).symm)|(exact(ZA (by omega)).trans (ZA (by omega)).symm)) j).symm
    ·have:(z:Int)<=j:=hj;rw [jD,if_neg (by omega)];exact Hz0.out j hj
 ·have e0:itV t=.iface 316 (.agg #[.string t]):=if_neg h0;rw [e0];clear e0 h0;rcases Nat.lt_or_ge t.size from_ with hf0|hf0
  ·go_wp2_with(with_reducible refine Fn.go λ g=>?_);refine @Fn.go _ _ _ _ _ (HR _ (by omega) _) λ g1=>?_
   dsimp only;go_wp2_with fail;refine plZ (.q [0,1,2,3,4,5,6,7] (.x [8] (.q [9,10,12] (.f [11] (.x [13] (.q [14] .d)))))) ?_;simp only [Zk.run,pick,gZ,gS,gA,gN]
   (try go_frame)
   (repeat(first|((with_reducible apply Zm);(·exact rfl);go_frame)|((with_reducible apply Zl);(·exact rfl);(·exact rfl);go_frame)|((with_reducible apply Zp);(·exact rfl);go_frame)|((with_reducible apply Zc);(·exact rfl);(·rintro _ ⟨gq,rfl⟩;exact ii);go_frame)|go_big_quiet_step (exact qZ)));refine nZ ?_
   rintro w2 hw2;have B2:=Ze hw2;clear hw2;go_wp2_with fail;refine(Bt.call (JO T k0 K c r0 g0 i _ t0 hk3 hik (by omega) ?_ ?_)).mono ?_
   ·first|omega|(simp only [Zs,ByteArray.size_extract,Zr];omega)
   ·first|omega|(simp only [Zs,ByteArray.size_extract,Zr];omega)
   rintro e w4 ⟨v,q,rfl,hR,B4⟩;dsimp only at B4 ⊢;rcases hR with ⟨e,he,rfl,rfl⟩|⟨p2,K2,rfl,rfl,hK2,hp2,t2⟩
   ·go_wp2_with fail;dsimp only [Nx]
    (repeat go_big_quiet_step (exact qZ));refine nZ ?_
    (repeat go_big_quiet_step (exact qZ));refine nZ ?_
    refine Z4 ?_;intro w2 B2;go_wp2_with(first|((with_reducible apply Zb);(·exact rfl);(·exact rfl);(·exact ii))|(with_reducible apply Zj));dsimp only [Nx];(repeat go_big_quiet_step (exact qZ));refine nZ ?_;(first|(rintro w3 hw3;have B3:=Ze hw3;clear hw3)|rintro g3);go_wp2_with(first|((with_reducible apply Zb);(·exact rfl);(·exact rfl);(·exact ii))|(with_reducible apply Zj))
    (refine bodyPost_ret (YR rfl _ _ _ _ rfl ii) rfl ?_)
    exact⟨_,_,rfl,.inl ⟨e,he,rfl,rfl⟩,(Bt.fin (p:=S K (c-(k0+1)))).mono λ h q=>T.less _ _ _ (by omega) h q⟩
   ·have T2:=Lib.hid t2;clear t2 hp2;go_wp2_with fail;dsimp only [Nx]
    (repeat go_big_quiet_step (exact qZ));refine nZ ?_
    (repeat go_big_quiet_step (exact qZ));refine nZ ?_
    refine Z4 ?_;intro w2 B2;go_wp2_with(first|((with_reducible apply Za);(·exact rfl);(·exact ii))|((with_reducible apply Zb);(·exact rfl);(·exact rfl);(·exact ii)));dsimp only [Nx];(repeat go_big_quiet_step (exact qZ));refine nZ ?_;(first|(rintro w3 hw3;have B3:=Ze hw3;clear hw3)|rintro g3);go_wp2_with(first|((with_reducible apply Za);(·exact rfl);(·exact ii))|((with_reducible apply Zb);(·exact rfl);(·exact rfl);(·exact ii)))
    (refine bodyPost_ret (YR rfl _ _ _ _ rfl ii) rfl ?_)
    refine⟨_,_,rfl,.inr ⟨⟨z,p2⟩,K2,rfl,rfl,hK2,rfl,⟨by dsimp only;omega,?_,λ j hj=>?_⟩⟩,(Bt.fin (p:=S K2 (c-(k0+1)))).mono λ h q=>T.less _ _ _ (by omega) h q⟩
    ·dsimp only;rw [Hk0.out,Int.toNat_natCast];exact T2.out.congr λ j hj=>(K6 hf (λ j hj=>by rw [Ht.out j hj];(simp only [Yp,YH,YM,Zs,ByteArray.size_extract,Zr,KX,Je]);(repeat' split)<;>first|rfl|(exfalso;omega)|(congr 1;omega)|(exact ZA (by omega))|(exact(ZA (by omega)).symm)|(exact(ZA (by omega)).trans (ZA (by omega)).symm)) j).symm
    ·have:(z:Int)<=j:=hj;rw [jD,if_neg (by omega)];exact Hz0.out j hj
  ·rcases Nat.lt_or_ge (from_+s.size) t.size with hf1|hf1
   ·go_wp2_with(with_reducible refine Fn.go λ g=>?_);refine plZ (.q [0,1,2,3,4,5,6,7] (.x [8] (.q [9,10,12] (.f [11] (.x [13] (.q [14] .d)))))) ?_;simp only [Zk.run,pick,gZ,gS,gA,gN]
    (try go_frame)
    (repeat(first|((with_reducible apply Zm);(·exact rfl);go_frame)|((with_reducible apply Zl);(·exact rfl);(·exact rfl);go_frame)|((with_reducible apply Zp);(·exact rfl);go_frame)|((with_reducible apply Zc);(·exact rfl);(·rintro _ ⟨gq,rfl⟩;exact ii);go_frame)|go_big_quiet_step (exact qZ)));refine nZ ?_
    rintro w2 hw2;have B2:=Ze hw2;clear hw2;go_wp2_with fail;refine(Bt.call (JO T k0 K c r0 g0 i _ t0 hk3 hik (by omega) ?_ ?_)).mono ?_
    ·first|omega|(simp only [Zs,ByteArray.size_extract,Zr];omega)
    ·first|omega|(simp only [Zs,ByteArray.size_extract,Zr];omega)
    rintro e w4 ⟨v,q,rfl,hR,B4⟩;dsimp only at B4 ⊢;rcases hR with ⟨e,he,rfl,rfl⟩|⟨p2,K2,rfl,rfl,hK2,hp2,t2⟩
    ·go_wp2_with fail;dsimp only [Nx]
     (repeat go_big_quiet_step (exact qZ));refine nZ ?_
     (repeat go_big_quiet_step (exact qZ));refine nZ ?_
     refine Z4 ?_;intro w2 B2;go_wp2_with(first|((with_reducible apply Zb);(·exact rfl);(·exact rfl);(·exact ii))|(with_reducible apply Zj));dsimp only [Nx];(repeat go_big_quiet_step (exact qZ));refine nZ ?_;(first|(rintro w3 hw3;have B3:=Ze hw3;clear hw3)|rintro g3);go_wp2_with(first|((with_reducible apply Zb);(·exact rfl);(·exact rfl);(·exact ii))|(with_reducible apply Zj))
     (refine bodyPost_ret (YR rfl _ _ _ _ rfl ii) rfl ?_)
     exact⟨_,_,rfl,.inl ⟨e,he,rfl,rfl⟩,(Bt.fin (p:=S K (c-(k0+1)))).mono λ h q=>T.less _ _ _ (by omega) h q⟩
    ·have T2:=Lib.hid t2;clear t2 hp2;go_wp2_with fail;dsimp only [Nx]
     (repeat go_big_quiet_step (exact qZ));refine nZ ?_
     (repeat go_big_quiet_step (exact qZ));refine nZ ?_
     refine Z4 ?_;intro w2 B2;go_wp2_with(first|((with_reducible apply Za);(·exact rfl);(·exact ii))|((with_reducible apply Zb);(·exact rfl);(·exact rfl);(·exact ii)));dsimp only [Nx];(repeat go_big_quiet_step (exact qZ));refine nZ ?_;(first|(rintro w3 hw3;have B3:=Ze hw3;clear hw3)|rintro g3);go_wp2_with(first|((with_reducible apply Za);(·exact rfl);(·exact ii))|((with_reducible apply Zb);(·exact rfl);(·exact rfl);(·exact ii)))
     (refine bodyPost_ret (YR rfl _ _ _ _ rfl ii) rfl ?_)
     refine⟨_,_,rfl,.inr ⟨⟨z,p2⟩,K2,rfl,rfl,hK2,rfl,⟨by dsimp only;omega,?_,λ j hj=>?_⟩⟩,(Bt.fin (p:=S K2 (c-(k0+1)))).mono λ h q=>T.less _ _ _ (by omega) h q⟩
     ·dsimp only;rw [Hk0.out,Int.toNat_natCast];exact T2.out.congr λ j hj=>(K6 hf (λ j hj=>by rw [Ht.out j hj];(simp only [Yp,YH,YM,Zs,ByteArray.size_extract,Zr,KX,Je]);(repeat' split)<;>first|rfl|(exfalso;omega)|(congr 1;omega)|(exact ZA (by omega))|(exact(ZA (by omega)).symm)|(exact(ZA (by omega)).trans (ZA (by omega)).symm)) j).symm
     ·have:(z:Int)<=j:=hj;rw [jD,if_neg (by omega)];exact Hz0.out j hj
   ·go_wp2_with(with_reducible refine Fn.go λ g=>?_);refine plZ (.q [0,1,2,3,4,5,6,7] (.x [8] (.q [9,10,12] (.f [11] (.x [13] (.q [14] .d)))))) ?_;simp only [Zk.run,pick,gZ,gS,gA,gN]
    (try go_frame)
    (repeat(first|((with_reducible apply Zm);(·exact rfl);go_frame)|((with_reducible apply Zl);(·exact rfl);(·exact rfl);go_frame)|((with_reducible apply Zp);(·exact rfl);go_frame)|((with_reducible apply Zc);(·exact rfl);(·rintro _ ⟨gq,rfl⟩;exact ii);go_frame)|go_big_quiet_step (exact qZ)));refine nZ ?_
    rintro w2 hw2;have B2:=Ze hw2;clear hw2;go_wp2_with fail;refine(Bt.call (JO T k0 K c r0 g0 i _ t0 hk3 hik (by omega) ?_ ?_)).mono ?_
    ·first|omega|(simp only [Zs,ByteArray.size_extract,Zr];omega)
    ·first|omega|(simp only [Zs,ByteArray.size_extract,Zr];omega)
    rintro e w4 ⟨v,q,rfl,hR,B4⟩;dsimp only at B4 ⊢;rcases hR with ⟨e,he,rfl,rfl⟩|⟨p2,K2,rfl,rfl,hK2,hp2,t2⟩
    ·go_wp2_with fail;dsimp only [Nx]
     (repeat go_big_quiet_step (exact qZ));refine nZ ?_
     (repeat go_big_quiet_step (exact qZ));refine nZ ?_
     refine Z4 ?_;intro w2 B2;go_wp2_with(first|((with_reducible apply Zb);(·exact rfl);(·exact rfl);(·exact ii))|(with_reducible apply Zj));dsimp only [Nx];(repeat go_big_quiet_step (exact qZ));refine nZ ?_;(first|(rintro w3 hw3;have B3:=Ze hw3;clear hw3)|rintro g3);go_wp2_with(first|((with_reducible apply Zb);(·exact rfl);(·exact rfl);(·exact ii))|(with_reducible apply Zj))
     (refine bodyPost_ret (YR rfl _ _ _ _ rfl ii) rfl ?_)
     exact⟨_,_,rfl,.inl ⟨e,he,rfl,rfl⟩,(Bt.fin (p:=S K (c-(k0+1)))).mono λ h q=>T.less _ _ _ (by omega) h q⟩
    ·have T2:=Lib.hid t2;clear t2 hp2;go_wp2_with fail;dsimp only [Nx]
     (repeat go_big_quiet_step (exact qZ));refine nZ ?_
     (repeat go_big_quiet_step (exact qZ));refine nZ ?_
     refine Z4 ?_;intro w2 B2;go_wp2_with(first|((with_reducible apply Za);(·exact rfl);(·exact ii))|((with_reducible apply Zb);(·exact rfl);(·exact rfl);(·exact ii)));dsimp only [Nx];(repeat go_big_quiet_step (exact qZ));refine nZ ?_;(first|(rintro w3 hw3;have B3:=Ze hw3;clear hw3)|rintro g3);go_wp2_with(first|((with_reducible apply Za);(·exact rfl);(·exact ii))|((with_reducible apply Zb);(·exact rfl);(·exact rfl);(·exact ii)))
     (refine bodyPost_ret (YR rfl _ _ _ _ rfl ii) rfl ?_)
     refine⟨_,_,rfl,.inr ⟨⟨z,p2⟩,K2,rfl,rfl,hK2,rfl,⟨by dsimp only;omega,?_,λ j hj=>?_⟩⟩,(Bt.fin (p:=S K2 (c-(k0+1)))).mono λ h q=>T.less _ _ _ (by omega) h q⟩
     ·dsimp only;rw [Hk0.out,Int.toNat_natCast];exact T2.out.congr λ j hj=>(K6 hf (λ j hj=>by rw [Ht.out j hj];(simp only [Yp,YH,YM,Zs,ByteArray.size_extract,Zr,KX,Je]);(repeat' split)<;>first|rfl|(exfalso;omega)|(congr 1;omega)|(exact ZA (by omega))|(exact(ZA (by omega)).symm)|(exact(ZA (by omega)).trans (ZA (by omega)).symm)) j).symm
     ·have:(z:Int)<=j:=hj;rw [jD,if_neg (by omega)];exact Hz0.out j hj
end
end Go.Proofs.YtlfjdjndhcmliaaGreatDoor
