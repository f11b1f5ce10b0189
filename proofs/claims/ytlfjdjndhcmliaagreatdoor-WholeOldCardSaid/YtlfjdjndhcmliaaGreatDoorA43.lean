/- WholeOld, part 43. -/
import Derived.Test.YtlfjdjndhcmliaaGreatDoorA40
import Derived.BigGuard
set_option maxRecDepth 100000
set_option maxHeartbeats 4000000
set_option linter.all false
namespace Go.Proofs.YtlfjdjndhcmliaaGreatDoor
open Go.RowKit Go.Sort
theorem Zod{wd:Wd}{ia sa:Option Addr}{icap scap:Nat}(o:KK wd)(h1:ia=none->icap=0)(h2:sa=none->scap=0)(hc1:wd.snaps.length<=icap)(hc2:wd.snaps.length<=scap)(W:World)[R1:Zy 1 ia wd.snaps.length icap (JI wd.snaps) W][R2:Zy 64 sa wd.snaps.length scap (yE wd.snaps) W](d:UInt8)(id off n:Int)(fill:UInt8)(hm:(d.toNat:Int)%8=3)(hid:0<=id/\id<=31) :
  Calls Tryz.prog 18 #[.agg (KO wd ia icap sa scap),.agg (QE.mk d id off n fill).cs] W (zm (QE.mk d id off n fill) wd ia icap sa scap W):=by
 have HM:Hid (d.toNat%8=3):=Lib.hid (by omega);have hlen:=o.len;obtain⟨r,hr⟩:=JA id wd.snaps;have FD:=λ(w:World) (_:Zy 1 ia wd.snaps.length icap (JI wd.snaps) w)=>Q9 (Yi wd.live) (Yf wd.live) (.slice sa wd.snaps.length scap) ia icap wd.snaps id r hr (by omega) w
 haveI B0:Bt W (λ _=>none) [Zw 3 1 none 0 0 [],Zw 35 64 none 0 0 []] W:=((Bt.zero W).more (Zw.nil 3 1 _)).more (Zw.nil 35 64 _);have NO:∀(w:World)(l:List SP)(want:Int),want≠0->Bt W (λ _=>none) l w->zm (QE.mk d id off n fill) wd ia icap sa scap W (.returned (.tuple #[.agg (Yx (Yi wd.live) (Yf wd.live) (.slice ia wd.snaps.length icap) (.slice sa wd.snaps.length scap)),.int .i64 want])) w:=λ w l want h B=>yB h B
 have HNO:=Lib.hid NO;clear NO;have HR:=Lib.hid hr;have HO:=Lib.hid o;clear hr o;unfold KO;simp only [QE.cs];obtain⟨hi0,hi1⟩:=hid;obtain⟨k,rfl⟩:=Int.eq_ofNat_of_zero_le hi0;have hk:k<32:=by omega
 haveI:ZfD k:=⟨hk⟩
 have hts:(Yf wd.live k).size<=100000:=by
  unfold Yf;cases e:wd.live k with
  |none=>exact Nat.zero_le _
  |some t=>have:=HO.out.live k t e;simp only [Option.getD_some];omega
 go_in
 go_wp2_with(first|(with_reducible apply YJ)|(with_reducible apply ZD)|((with_reducible apply Xf);(·exact rfl))|((with_reducible apply Za);(·exact rfl);(·exact ii))|((with_reducible apply Zb);(·exact rfl);(·exact rfl);(·exact ii)));refine YI.world (W:=W) (h:=λ _=>none) ii ?_;intro w1 B1;refine ZN (ts:=36) B1 rfl rfl ii (B1.rds0 R1) h1 (jL _) (Jq _) (by omega) (by decide) ?_;intro ia1 ic1 w2 B2;simp only [List.nil_append,Nat.zero_add]at B2 ⊢;clear B1;go_wp2_with(with_reducible apply YJ);refine YI.world (W:=W) (h:=λ _=>none) ii ?_;intro w3 B3;clear B2;refine ZN (ts:=37) B3 rfl rfl ii (B3.rds0 R2) h2 (jA _) (Js _) (by omega) (by decide) ?_;intro sa1 sc1 w4 B4;simp only [List.nil_append,Nat.zero_add]at B4 ⊢;clear B3;go_wp2_with((with_reducible apply Za);(·exact rfl);(·exact ii));refine ZB (W:=W) (h:=λ _=>none) ii ?_;intro w5 B5;clear B4;refine(FD w5 (B5.rds0 R1)).h.mono ?_;rintro e w6 ⟨rfl,hb6⟩;obtain⟨g6,rfl⟩:=Zf hb6;have B7:Bt W (λ _=>none) _ (gr w5 g6):=ii;clear hb6 B5 FD B0;generalize gr w5 g6=w7 at B7 ⊢;dsimp only
 by_cases hh:(wd.live k).isSome=true
 ·have e1:Yi wd.live k=true:=hh
  by_cases ho0:0<=off
  ·obtain⟨z,rfl⟩:=Int.eq_ofNat_of_zero_le ho0
   by_cases ho1:z<=16384
   ·have RT:∀ w,Fn 50 #[.string (Yf wd.live k),.int .i64 z] w (.string (yT (Yf wd.live k) z)):=λ w=>Ze7 _ z hts (by omega) w
    have HH:=Lib.hid hh;clear hh;go_wp2_with fail;refine plZ (.q [0,1,2,3,4,5,6,7,8,9,10,11,12,13] (.x [14] .d)) ?_;simp only [Zk.run,pick,gZ,gS,gA,gN]
    (repeat(first|((with_reducible apply Zc);(·exact rfl);(·rintro _ ⟨gq,rfl⟩;exact ii);go_frame)|go_big_quiet_step (exact qZ)));refine nZ ?_
    refine Z4 ?_;intro w8 B8;clear B7 RT;go_wp2_with fail;dsimp only [Nx];refine Z4 ?_;intro w9 B9;clear B8;go_wp2_with(first|((with_reducible apply Za);(·exact rfl);(·exact ii))|((with_reducible apply Zb);(·exact rfl);(·exact rfl);(·exact ii)))
    (refine bodyPost_ret (Zt (z:=66) rfl _ _ _ _ rfl inferInstance Tryz.underlying39 rfl (by kernel_rfl)) rfl ?_)
    exact zG (wd':={ wd with live:=Yw wd.live k (some (yT (Yf wd.live k) z)) }) (by unfold jN;simp only [HM.out];exact⟨k,z,⟨rfl,hk⟩,⟨rfl,ho1,HH.out⟩,rfl⟩) (by unfold KO;rw [<-US,<- ZhA HH.out]) ii
   ·clear hh;go_wp2_with(first|((with_reducible apply Za);(·exact rfl);(·exact ii))|((with_reducible apply Zb);(·exact rfl);(·exact rfl);(·exact ii)))
    (refine bodyPost_ret (Zt (z:=66) rfl _ _ _ _ rfl inferInstance Tryz.underlying39 rfl (by kernel_rfl)) rfl ?_)
    exact HNO.out _ _ _ (by decide) (ii:Bt W (λ _=>none) _ _)
  ·clear hh;go_wp2_with(first|((with_reducible apply Za);(·exact rfl);(·exact ii))|((with_reducible apply Zb);(·exact rfl);(·exact rfl);(·exact ii)))
   (refine bodyPost_ret (Zt (z:=66) rfl _ _ _ _ rfl inferInstance Tryz.underlying39 rfl (by kernel_rfl)) rfl ?_)
   exact HNO.out _ _ _ (by decide) (ii:Bt W (λ _=>none) _ _)
 ·have e1:Yi wd.live k=false:=by simpa [Yi]using hh
  clear hh;go_wp2_with(first|((with_reducible apply Za);(·exact rfl);(·exact ii))|((with_reducible apply Zb);(·exact rfl);(·exact rfl);(·exact ii)))
  (refine bodyPost_ret (Zt (z:=66) rfl _ _ _ _ rfl inferInstance Tryz.underlying39 rfl (by kernel_rfl)) rfl ?_)
  exact HNO.out _ _ _ (by decide) (ii:Bt W (λ _=>none) _ _)
end Go.Proofs.YtlfjdjndhcmliaaGreatDoor
