/- WholeOld, part 17. -/
import Derived.Test.YtlfjdjndhcmliaaGreatDoorA16
set_option maxRecDepth 100000
set_option maxHeartbeats 4000000
set_option linter.all false
namespace Go.Proofs.YtlfjdjndhcmliaaGreatDoor
open Go.RowKit Go.Sort
instance UV:Qi Y9:=⟨λ _=>⟨by kernel_rfl,QX⟩⟩
theorem qx(n:Int):∃ k:Nat,zN n=k/\k<=3:=by
 obtain⟨a,b⟩:=Ks n;exact⟨(zN n).toNat,by omega,by omega⟩
section
variable{st:Nat}{S:KS->Nat->SP}(T:VT st S)
include T
theorem ZaP(K:KS)(c:Nat){z:Nat}{r0:Pt}{g0:Nat->UInt8}(o:Ob K ⟨z,r0⟩ g0)(m:Nat)(hm:m<=16384)(hc:3<=c):Tq 114 #[Jv st,.agg (Nd.mk z r0).cs,.int .i64 m] (S K c) (RN S K (c-3) λ n' K'=>n'.size=(max z m:Nat)/\Ob K' n' g0):=by
 obtain⟨⟨z0,z1⟩,t0,hz⟩:=o;have z1:z<=16384:=by have:((z:Int))<=16384:=z1;omega
 obtain⟨k0,hk0,hk3⟩:=qx z;obtain⟨k1,hk1,hk13⟩:=qx m;have hle:z<=m->k0<=k1:=λ h=>by have:=kh (show (z:Int)<=m by omega);omega
 have hge:m<=z->k1<=k0:=λ h=>by have:=kh (show (m:Int)<=z by omega);omega
 have hsp:=JV (show (z:Int)<=16384 by omega);have t0:Tr K k0 r0 g0:=by have:(zN z).toNat=k0:=(by omega);rw [<-this];exact t0
 have hsp:z<=span k0:=by have:(zN z).toNat=k0:=(by omega);rw [this]at hsp;omega
 have V0:∀ w,Fn 161 #[.int .i64 (z:Nat)] w (.int .i64 k0):=λ w=>by have e:=Jc z w;rw [hk0]at e;exact e
 have V1:∀ w,Fn 161 #[.int .i64 (m:Nat)] w (.int .i64 k1):=λ w=>by have e:=Jc m w;rw [hk1]at e;exact e
 have hmx:Kb (z:Int) m=((max z m:Nat):Int):=by unfold Kb;split<;>omega
 have hzz:∀ j,z<=j->g0 j=0:=λ j hj=>hz j (by show (z:Int)<=j;omega)
 have hlm:zN ((max z m:Nat):Int)=(max k0 k1:Nat):=by
  rcases Nat.le_total z m with h|h
  ·rw [Nat.max_eq_right h,Nat.max_eq_right (hle h)];exact hk1
  ·rw [Nat.max_eq_left h,Nat.max_eq_left (hge h)];exact hk0
 have Hlm:=Lib.hid hlm;have Hzz:=Lib.hid hzz;have Hle:=Lib.hid hle;clear hz hk0 hk1 hlm hzz hle hge z0;refine Tq.of λ W h B=>?_
 go_in
 go_wp2_with(first|(with_reducible refine Fn.go λ g=>?_)|((with_reducible apply Za);(·exact rfl);(·exact ii)))
 go_loopw [9] (λ lv wr=>∃(k:Nat)(r:Pt)(K1:KS),lv=.int .i64 k/\k0<=k/\k<=3/\(k=k0\/k<=k1)/\K.le K1/\Tr K1 k r g0/\Bt W h [Zd (W.heap.size+1+1) r.cs 50,Zd (W.heap.size+1) Nd.none.cs 52,Zd W.heap.size (Nd.mk z r0).cs 52,S K1 (c-(k-k0))] wr)
  (λ lv _=>4-(intOf lv).toNat)
 case atStart =>
  exact⟨k0,r0,K,rfl,Nat.le_refl _,hk3,.inl rfl,KS.le.refl K,t0,by simp only [Nat.sub_self,Nat.sub_zero];infer_instance⟩
 case round =>
  clear B;obtain⟨k,r,K1,rfl,hk,hk3',hkk,hK,t,B⟩:=hrel
  by_cases hlt:k<k1
  ·cases hp:r.isNone
   ·have HN:∀ w,Fn 169 #[.agg r.cs] w (.bool false):=λ w=>by have e:=Y4 r w;rw [hp]at e;exact e
    haveI:Qi (upd Y9 0 r):=T.fit4 (w:=wr) (K:=K1) (c:=c-(k-k0)) UV t hp;have P:=js T K1 (c-(k-k0)) (upd Y9 0 r) (k+1) (by omega) (by omega) (KN (by omega) hp);rw [show (((k+1:Nat):Int))=(k:Int)+1 by omega]at P;have Hp:=Lib.hid hp;clear hp;go_wp2_with(first|(with_reducible refine Fn.go λ g=>?_)|((with_reducible apply Za);(·exact rfl);(·exact ii))|((with_reducible apply Z2);(·exact rfl);(·exact rfl);(·exact ii))|((with_reducible apply Uv);(·exact rfl)));refine(Bt.call P).mono ?_;rintro e w4 ⟨v,q,rfl,hR,B4⟩;dsimp only at B4 ⊢;rcases hR with ⟨e,he,rfl,rfl⟩|⟨p2,K2,rfl,rfl,hK2,hp2,hv2,hx2⟩
    ·go_wp2_with(with_reducible apply Zj)
     (refine bodyPost_ret (YR rfl _ _ _ _ rfl ii) rfl ?_)
     exact⟨_,_,rfl,.inl ⟨e,he,rfl,rfl⟩,(Bt.fin (p:=S K1 (c-(k-k0)-1))).mono λ h q=>T.sub _ _ _ hK h (T.less _ _ _ (by omega) h q)⟩
    ·have Hx:=Lib.hid (And.intro hp2 (And.intro hv2 hx2));clear hp2 hv2 hx2;go_wp2_with((with_reducible apply Za);(·exact rfl);(·exact ii));obtain⟨hp2,hv2,hx2⟩:=Hx.out;refine⟨⟨k+1,p2,K2,by go_num,by omega,by omega,.inr hlt,hK.trans hK2,(t.mono hK2).up hp2 hv2 ii hx2 (λ j hj=>Hzz.out j ?_),?_⟩,by simp [intOf];omega⟩
     ·have:=ye hk;unfold span at *
      omega
     ·rw [show c-(k+1-k0)=c-(k-k0)-1 by omega];exact Bt.drop ii
   ·obtain rfl:=(Pt.isNone_iff r).1 hp;clear hp;go_wp2_with(first|(with_reducible refine Fn.go λ g=>?_)|((with_reducible apply Za);(·exact rfl);(·exact ii))|((with_reducible apply Z2);(·exact rfl);(·exact rfl);(·exact ii))|((with_reducible apply Xb);(·exact rfl);(·exact rfl)))
    (refine bodyPost_ret (YR rfl _ _ _ _ rfl ii) rfl ?_)
    refine⟨_,_,rfl,.inr ⟨⟨(max z m:Nat),Pt.none⟩,K1,rfl,rfl,hK,rfl,⟨by dsimp only;omega,?_,λ j hj=>Hzz.out j (by dsimp only at hj;omega)⟩⟩,(Bt.fin (p:=S K1 (c-(k-k0)))).mono λ h q=>T.less _ _ _ (by omega) h q⟩;dsimp only;rw [Hlm.out,Int.toNat_natCast];refine Tr.zero K1 λ j hj=>?_
    rcases Nat.lt_or_ge j z with h1|h1
    ·exact t.zeros j (by have:=ye hk;unfold span at *;omega)
    ·exact Hzz.out j h1
  ·have hkm:k=max k0 k1:=by omega
   have hlt':¬ (k:Int)<k1:=by omega
   go_wp2_with(first|(with_reducible refine Fn.go λ g=>?_)|((with_reducible apply Za);(·exact rfl);(·exact ii))|((with_reducible apply Xb);(·exact rfl);(·exact rfl)))
   (refine bodyPost_ret (YR rfl _ _ _ _ rfl ii) rfl ?_)
   refine⟨_,_,rfl,.inr ⟨⟨(max z m:Nat),r⟩,K1,rfl,rfl,hK,rfl,⟨by dsimp only;omega,?_,λ j hj=>Hzz.out j (by dsimp only at hj;omega)⟩⟩,(Bt.fin (p:=S K1 (c-(k-k0)))).mono λ h q=>T.less _ _ _ (by omega) h q⟩;dsimp only;rw [Hlm.out,Int.toNat_natCast];rw [<-hkm];exact t
end
end Go.Proofs.YtlfjdjndhcmliaaGreatDoor
