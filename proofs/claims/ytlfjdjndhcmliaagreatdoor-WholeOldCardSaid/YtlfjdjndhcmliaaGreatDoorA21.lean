/- WholeOld, part 21. -/
import Derived.Test.YtlfjdjndhcmliaaGreatDoorA20
import Derived.Test.YtlfjdjndhcmliaaGreatDoorA18
set_option maxRecDepth 100000
set_option maxHeartbeats 4000000
set_option linter.all false
namespace Go.Proofs.YtlfjdjndhcmliaaGreatDoor
open Go.RowKit Go.Sort
theorem Zv{x:Value}{R:Value->SP->Prop}{G:SP->Prop}{q:SP}(h:R x q/\G q):∃ v q,Ending.returned x=.returned v/\R v q/\G q:=⟨_,q,rfl,h⟩
theorem Zu{x:Value}{R:Value->SP->Prop}{G:SP->Prop}{q:SP}(h:R x q/\G q):∃ v,Ending.returned x=.returned v/\∃ q,R v q/\G q:=⟨_,rfl,q,h⟩
theorem U9(s:ByteArray)(i:Nat):Qd s i=true↔∀ j,i<=j->ZH s j=0:=by
 constructor
 ·intro h j hj
  false_or_by_contra
  rename_i hne
  have hlt:j<s.size:=by
   rcases Nat.lt_or_ge j s.size with h1|h1
   ·exact h1
   ·exact absurd (ZA h1) hne
  have:=UH s i (ZH s j) hne (by
   rw [Int.toNat_natCast];refine List.mem_of_getElem? (i:=j-i) ?_;rw [List.getElem?_drop,show i+(j-i)=j by omega];unfold ZH
   rw [List.getD_eq_getElem?_getD,List.getElem?_eq_getElem (by rw [Zi];exact hlt)];rfl)
  rw [this]at h;cases h
 ·intro h;refine J4 s i λ b hb=>?_
  rw [Int.toNat_natCast]at hb;obtain⟨k,hk,rfl⟩:=List.mem_iff_getElem.1 hb;have:=h (i+k) (by omega);unfold ZH at this;rw [List.getElem_drop];rw [List.length_drop]at hk;rw [List.getD_eq_getElem?_getD,List.getElem?_eq_getElem (by omega)]at this;exact this
theorem ZhD{g0:Nat->UInt8}{z:Nat}{t:ByteArray}(hs:∀ j,j<256->g0 (256*(z/256)+j)=ZH t j)(hz:∀ j:Nat,256*((z+255)/256)<=j->g0 j=0)(h:z%256<t.size)(j:Nat):Kg g0 z j=zO g0 (z/256) (t.extract 0 (z%256)) j:=by
 unfold Kg zO;rw [YH];split
 ·rename_i h1;split
  ·rename_i h2;rw [if_pos (by omega),Nat.zero_add,<- hs _ (by omega)]
   congr 1;omega
  ·rfl
 ·rename_i h1;split
  ·rw [if_neg (by omega)]
  ·exact(hz j (by omega)).symm
section
variable{st:Nat}{S:KS->Nat->SP}(T:VT st S)
include T
theorem ZcJ(K:KS)(c:Nat){z:Nat}{r0:Pt}{g0:Nat->UInt8}(o:ObW K ⟨z,r0⟩ g0)(hz:∀ j:Nat,256*((z+255)/256)<=j->g0 j=0)(hc:4<=c) :
  Tq 164 #[Jv st,.agg (Nd.mk z r0).cs] (S K c) (RN S K (c-4) λ n' K'=>n'.size=z/\Ob K' n' (Kg g0 z)):=by
 have L:=λ i hi=>Zbg T K c (i:=i) o hi
 obtain⟨⟨z0,z1⟩,t0,_⟩:=o;have z1:z<=16384:=by have:((z:Int))<=16384:=z1;omega
 obtain⟨k0,hk0,hk3⟩:=qx z;have t0:Tr K k0 r0 g0:=by have:(zN z).toNat=k0:=(by omega);rw [<-this];exact t0
 have V0:∀ w,Fn 161 #[.int .i64 (z:Nat)] w (.int .i64 k0):=λ w=>by have e:=Jc z w;rw [hk0]at e;exact e
 have hsp:=JV (show (z:Int)<=16384 by omega);rw [hk0,Int.toNat_natCast]at hsp;have Hz:=Lib.hid hz;have Hk:=Lib.hid hk0;have Hsp:=Lib.hid hsp
 have keep:∀ K1:KS,K.le K1->(∀ j,z<=j->j<256*(z/256+1)->g0 j=0)->Ob K1 ⟨z,r0⟩ (Kg g0 z):=λ K1 hK h=>by
  have e:∀ j,Kg g0 z j=g0 j:=λ j=>by
   unfold Kg;split
   ·rfl
   ·rename_i h1;rcases Nat.lt_or_ge j (256*(z/256+1))with h2|h2
    ·exact(h j (by omega) h2).symm
    ·exact(Hz.out j (by omega)).symm
  refine⟨by dsimp only;omega,?_,λ j hj=>if_neg (by have:(z:Int)<=j:=hj;omega)⟩;dsimp only;rw [Hk.out,Int.toNat_natCast];exact(t0.mono hK).congr λ j _=>e j
 have Keep:=Lib.hid keep;clear hz hk0 hsp keep z0;refine Tq.of λ W h B=>?_
 by_cases hr:z%256=0
 ·have hr':(z:Int)%256=0:=by omega
  go_in
  go_wp2_with fail;refine plZ (.q [0,1,2,3,4,5,6,7] .d) ?_;simp only [Zk.run,pick,gZ,gS,gA,gN]
  (repeat(first|((with_reducible apply Zm);(·exact rfl);go_frame)|((with_reducible apply Zl);(·exact rfl);(·exact rfl);go_frame)|((with_reducible apply Zp);(·exact rfl);go_frame)|((with_reducible apply Zc);(·exact rfl);(·rintro _ ⟨gq,rfl⟩;exact ii);go_frame)|go_big_quiet_step (exact qZ)));refine nZ ?_
  rintro w2 hw2;have B2:=Ze hw2;clear hw2;go_wp2_with((with_reducible apply Za);(·exact rfl);(·exact ii))
  (refine bodyPost_ret (YR rfl _ _ _ _ rfl ii) rfl ?_)
  (first|apply Zv|apply Zu)
  exact⟨.inr ⟨⟨z,r0⟩,K,rfl,rfl,KS.le.refl K,rfl,Keep.out K (KS.le.refl K) λ j h1 h2=>Hz.out j (by omega)⟩,(Bt.fin (p:=S K c)).mono λ h q=>T.less _ _ _ (by omega) h q⟩
 ·have L1:=L (z/256) (by omega);rw [show (((z/256:Nat)):Int)=(z:Int)/256 by omega]at L1;obtain⟨r,hrz⟩:∃ r,r=z%256:=⟨_,rfl⟩
  have hzr:(z:Int)%256=(r:Int):=by omega
  have hr':((r:Int)==0)=false:=by rw [beq_eq_false_iff_ne];omega
  have hr2:r<256:=by omega
  have Hrz:=Lib.hid hrz;clear hrz;clear L
  go_in
  go_wp2_with fail;refine plZ (.q [0,1,2,3,4,5,6,7] .d) ?_;simp only [Zk.run,pick,gZ,gS,gA,gN]
  (repeat(first|((with_reducible apply Zm);(·exact rfl);go_frame)|((with_reducible apply Zl);(·exact rfl);(·exact rfl);go_frame)|((with_reducible apply Zp);(·exact rfl);go_frame)|((with_reducible apply Zc);(·exact rfl);(·rintro _ ⟨gq,rfl⟩;exact ii);go_frame)|go_big_quiet_step (exact qZ)));refine nZ ?_
  rintro w2 hw2;have B2:=Ze hw2;clear hw2;go_wp2_with((with_reducible apply Za);(·exact rfl);(·exact ii));refine(Bt.call L1).mono ?_;rintro e w3 ⟨v,q,rfl,⟨t,⟨rfl,rfl⟩,⟨h4,h2⟩,hs⟩,B3⟩;dsimp only at B3 ⊢;have Fs:=Lib.hid hs;have HD:=VI h4 h2;haveI:Sz t:=⟨by omega⟩
  have hzz:(Ve (t.extract r t.size)).toList.isEmpty=Qd t (r:Nat):=by unfold Qd;rw [Int.toNat_natCast]
  clear hs h4
  by_cases h0:t.size=0
  ·have e0:itV t=.iface 288 (.agg #[]):=if_pos h0;obtain rfl:t=⟨#[]⟩:=Yu (List.eq_nil_of_length_eq_zero (by rw [Zi];exact h0));rw [e0];have Hzz:=Lib.hid hzz;clear e0 h0 hzz;go_wp2_with(first|(with_reducible refine Fn.go λ g=>?_)|((with_reducible apply Za);(·exact rfl);(·exact ii)))
   (refine bodyPost_ret (YR rfl _ _ _ _ rfl ii) rfl ?_)
   (first|apply Zv|apply Zu)
   exact⟨.inr ⟨⟨z,r0⟩,K,rfl,rfl,KS.le.refl K,rfl,Keep.out K (KS.le.refl K) λ j h1 h2=>by
        have:=Fs.out (j-256*(z/256)) (by omega);rw [show 256*(z/256)+(j-256*(z/256))=j by omega]at this
        rw [this];rfl⟩,(Bt.fin (p:=S K c)).mono λ h q=>T.less _ _ _ (by omega) h q⟩
  ·have e0:itV t=.iface 316 (.agg #[.string t]):=if_neg h0;rw [e0];clear e0 h0;rcases Nat.lt_or_ge r t.size with h5|h5
   ·have h6:¬ (t.size:Int)<=(r:Int):=by omega
    cases hq:Qd t (r:Nat)
    ·rw [hq]at hzz;have Hq:=Lib.hid hq;clear hq;go_wp2_with(with_reducible refine Fn.go λ g=>?_);refine plZ (.q [0,1,2,3,4,5,6,7,8,9] (.x [10] (.q [11,12,14] (.f [13] (.x [15] (.q [16] .d)))))) ?_;simp only [Zk.run,pick,gZ,gS,gA,gN]
     (try go_frame)
     (repeat(first|((with_reducible apply Zm);(·exact rfl);go_frame)|((with_reducible apply Zl);(·exact rfl);(·exact rfl);go_frame)|((with_reducible apply Zp);(·exact rfl);go_frame)|((with_reducible apply Zc);(·exact rfl);(·rintro _ ⟨gq,rfl⟩;exact ii);go_frame)|go_big_quiet_step (exact qZ)));refine nZ ?_
     rintro w3 hw3;have B3:=Ze hw3;clear hw3;go_wp2_with fail;refine(Bt.call (JO T k0 K c r0 g0 (z/256) _ t0 hk3 (by have:=Hsp.out;unfold span at this;omega) (by omega) ?_ ?_)).mono ?_
     ·rw [ByteArray.size_extract];omega
     ·rw [ByteArray.size_extract];omega
     rintro e w4 ⟨v,q,rfl,hR,B4⟩;dsimp only at B4 ⊢;rcases hR with ⟨e,he,rfl,rfl⟩|⟨p2,K2,rfl,rfl,hK2,hp2,t2⟩
     ·go_wp2_with fail;dsimp only [Nx]
      (repeat go_big_quiet_step (exact qZ));refine nZ ?_
      (repeat go_big_quiet_step (exact qZ));refine nZ ?_
      refine Z4 ?_;intro w2 B2;go_wp2_with(first|((with_reducible apply Zb);(·exact rfl);(·exact rfl);(·exact ii))|(with_reducible apply Zj));dsimp only [Nx];(repeat go_big_quiet_step (exact qZ));refine nZ ?_;(first|(rintro w3 hw3;have B3:=Ze hw3;clear hw3)|rintro g3);go_wp2_with(first|((with_reducible apply Zb);(·exact rfl);(·exact rfl);(·exact ii))|(with_reducible apply Zj))
      (refine bodyPost_ret (YR rfl _ _ _ _ rfl ii) rfl ?_)
      exact⟨_,_,rfl,.inl ⟨e,he,rfl,rfl⟩,(Bt.fin (p:=S K (c-(k0+1)))).mono λ h q=>T.less _ _ _ (by omega) h q⟩
     ·have T2:=Lib.hid t2;clear t2 hp2;go_wp2_with fail;dsimp only [Nx]
      (repeat go_big_quiet_step (exact qZ));refine nZ ?_
      (repeat go_big_quiet_step (exact qZ));refine nZ ?_
      refine Z4 ?_;intro w2 B2;go_wp2_with(first|((with_reducible apply Za);(·exact rfl);(·exact ii))|((with_reducible apply Zb);(·exact rfl);(·exact rfl);(·exact ii)));dsimp only [Nx];(repeat go_big_quiet_step (exact qZ));refine nZ ?_;(first|(rintro w3 hw3;have B3:=Ze hw3;clear hw3)|rintro g3);go_wp2_with(first|((with_reducible apply Za);(·exact rfl);(·exact ii))|((with_reducible apply Zb);(·exact rfl);(·exact rfl);(·exact ii)))
      (refine bodyPost_ret (YR rfl _ _ _ _ rfl ii) rfl ?_)
      refine⟨_,_,rfl,.inr ⟨⟨z,p2⟩,K2,rfl,rfl,hK2,rfl,⟨by dsimp only;omega,?_,λ j hj=>if_neg (by have:(z:Int)<=j:=hj;omega)⟩⟩,(Bt.fin (p:=S K2 (c-(k0+1)))).mono λ h q=>T.less _ _ _ (by omega) h q⟩;dsimp only;rw [Hk.out,Int.toNat_natCast];refine T2.out.congr λ j hj=>by rw [Hrz.out];exact ZhD Fs.out Hz.out (by rw [<-Hrz.out];exact h5) j
    ·rw [hq]at hzz;have Hq:=Lib.hid hq;clear hq;go_wp2_with(first|(with_reducible refine Fn.go λ g=>?_)|((with_reducible apply Za);(·exact rfl);(·exact ii)))
     (refine bodyPost_ret (YR rfl _ _ _ _ rfl ii) rfl ?_)
     (first|apply Zv|apply Zu)
     exact⟨.inr ⟨⟨z,r0⟩,K,rfl,rfl,KS.le.refl K,rfl,Keep.out K (KS.le.refl K) λ j h1 h2=>by
       have:=Fs.out (j-256*(z/256)) (by omega);rw [show 256*(z/256)+(j-256*(z/256))=j by omega]at this;rw [this]
       exact(U9 t r).1 Hq.out _ (by have:=Hrz.out;omega)⟩,(Bt.fin (p:=S K c)).mono λ h q=>T.less _ _ _ (by omega) h q⟩
   ·have h6:(t.size:Int)<=(r:Int):=by omega
    have Hzz:=Lib.hid hzz;clear hzz;go_wp2_with(first|(with_reducible refine Fn.go λ g=>?_)|((with_reducible apply Za);(·exact rfl);(·exact ii)))
    (refine bodyPost_ret (YR rfl _ _ _ _ rfl ii) rfl ?_)
    (first|apply Zv|apply Zu)
    exact⟨.inr ⟨⟨z,r0⟩,K,rfl,rfl,KS.le.refl K,rfl,Keep.out K (KS.le.refl K) λ j h1 h2=>by
         have:=Fs.out (j-256*(z/256)) (by omega);rw [show 256*(z/256)+(j-256*(z/256))=j by omega]at this
         rw [this,ZA (by have:=Hrz.out;omega)]⟩,(Bt.fin (p:=S K c)).mono λ h q=>T.less _ _ _ (by omega) h q⟩
end
end Go.Proofs.YtlfjdjndhcmliaaGreatDoor
