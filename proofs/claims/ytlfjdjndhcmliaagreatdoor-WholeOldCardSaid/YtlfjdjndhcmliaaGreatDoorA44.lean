/- WholeOld, part 44. -/
import Derived.Test.YtlfjdjndhcmliaaGreatDoorA40
import Derived.BigGuard
set_option maxRecDepth 100000
set_option maxHeartbeats 4000000
set_option linter.all false
namespace Go.Proofs.YtlfjdjndhcmliaaGreatDoor
open Go.RowKit Go.Sort
theorem ZmK{wd:Wd}{ia sa:Option Addr}{icap scap:Nat}(o:KK wd)(h1:ia=none->icap=0)(h2:sa=none->scap=0)(hc1:wd.snaps.length<=icap)(hc2:wd.snaps.length<=scap)(W:World)[R1:Zy 1 ia wd.snaps.length icap (JI wd.snaps) W][R2:Zy 64 sa wd.snaps.length scap (yE wd.snaps) W](d:UInt8)(id off n:Int)(fill:UInt8)(hm:(d.toNat:Int)%8=5) :
  Calls Tryz.prog 18 #[.agg (KO wd ia icap sa scap),.agg (QE.mk d id off n fill).cs] W (zm (QE.mk d id off n fill) wd ia icap sa scap W):=by
 have HM:Hid (d.toNat%8=5):=Lib.hid (by omega);have hlen:=o.len;obtain⟨r,hr⟩:=JA id wd.snaps;have FD:=λ(w:World) (_:Zy 1 ia wd.snaps.length icap (JI wd.snaps) w)=>Q9 (Yi wd.live) (Yf wd.live) (.slice sa wd.snaps.length scap) ia icap wd.snaps id r hr (by omega) w
 haveI B0:Bt W (λ _=>none) [Zw 3 1 none 0 0 [],Zw 35 64 none 0 0 []] W:=((Bt.zero W).more (Zw.nil 3 1 _)).more (Zw.nil 35 64 _);have NO:∀(w:World)(l:List SP)(want:Int),want≠0->Bt W (λ _=>none) l w->zm (QE.mk d id off n fill) wd ia icap sa scap W (.returned (.tuple #[.agg (Yx (Yi wd.live) (Yf wd.live) (.slice ia wd.snaps.length icap) (.slice sa wd.snaps.length scap)),.int .i64 want])) w:=λ w l want h B=>yB h B
 have HNO:=Lib.hid NO;clear NO;have HR:=Lib.hid hr;have HO:=Lib.hid o;clear hr o;unfold KO;simp only [QE.cs]
 go_in
 go_wp2_with(first|(with_reducible apply Vm)|(with_reducible apply ZD));rw [hm];refine⟨?_⟩;have hleq:∀ w:World,(binOp .leq 5 (.int .u8 5) (.int .u8 4)).run Tryz.prog w=.ok (.bool false) w:=λ w=>by kernel_rfl
 refine Qo (v:=.bool false) rfl (by simp only [execOp];first|exact hleq _|(simp [go_sem,hleq];done)) ?_;go_frame;refine Qo (v:=.bool false) rfl (by simp only [execOp];first|rfl|simp [go_sem]) ?_;go_frame
 go_big_skip
 clear hleq;go_wp2_with(first|(with_reducible apply YJ)|(with_reducible apply ZD)|((with_reducible apply Xf);(·exact rfl))|((with_reducible apply Za);(·exact rfl);(·exact ii))|((with_reducible apply Zb);(·exact rfl);(·exact rfl);(·exact ii)));refine YI.world (W:=W) (h:=λ _=>none) ii ?_;intro w1 B1;refine ZN (ts:=36) B1 rfl rfl ii (B1.rds0 R1) h1 (jL _) (Jq _) (by omega) (by decide) ?_;intro ia1 ic1 w2 B2;simp only [List.nil_append,Nat.zero_add]at B2 ⊢;clear B1;go_wp2_with(with_reducible apply YJ);refine YI.world (W:=W) (h:=λ _=>none) ii ?_;intro w3 B3;clear B2;refine ZN (ts:=37) B3 rfl rfl ii (B3.rds0 R2) h2 (jA _) (Js _) (by omega) (by decide) ?_;intro sa1 sc1 w4 B4;simp only [List.nil_append,Nat.zero_add]at B4 ⊢;clear B3;go_wp2_with((with_reducible apply Za);(·exact rfl);(·exact ii));refine ZB (W:=W) (h:=λ _=>none) ii ?_;intro w5 B5;clear B4;refine(FD w5 (B5.rds0 R1)).h.mono ?_;rintro e w6 ⟨rfl,hb6⟩;obtain⟨g6,rfl⟩:=Zf hb6;have B7:Bt W (λ _=>none) _ (gr w5 g6):=ii;clear hb6 B5 FD B0;generalize gr w5 g6=w7 at B7 ⊢;dsimp only
 by_cases hi0:0<=id
 ·by_cases hi1:id<=99
  ·rcases HR.out with ⟨i,T,rfl,hi2,hi3⟩|⟨rfl,hno⟩
   ·clear hi2 hi3;go_wp2_with(first|((with_reducible apply Za);(·exact rfl);(·exact ii))|((with_reducible apply Zb);(·exact rfl);(·exact rfl);(·exact ii)))
    (refine bodyPost_ret (Zt (z:=66) rfl _ _ _ _ rfl inferInstance Tryz.underlying39 rfl (by kernel_rfl)) rfl ?_)
    exact HNO.out _ _ _ (by decide) (ii:Bt W (λ _=>none) _ _)
   ·by_cases hl:wd.snaps.length<4
    ·have HN:=Lib.hid hno;clear hno;go_wp2_with(with_reducible apply YJ);refine YI.world (W:=W) (h:=λ _=>none) ii ?_;intro w8 B8;clear B7;refine ZN (ts:=36) B8 rfl rfl ii (ZjJ 1) (λ h=>by cases h) (by simp) (by simp [Value.oneCell']) (by omega) (by decide) ?_;intro ia2 ic2 w9 B9;clear B8;go_wp2_with(first|(with_reducible apply YJ)|((with_reducible apply ZcK);(·exact rfl))|((with_reducible apply Za);(·exact rfl);(·exact ii)));refine YI.world (W:=W) (h:=λ _=>none) ii ?_;intro w10 B10;clear B9;simp only [World.size_setCell];refine ZN (ts:=37) B10 rfl rfl ii (ZiR 1) (λ h=>by cases h) (by simp [Yq]) (by simpa using j7 _ _) (by omega) (by decide) ?_;intro sa2 sc2 w11 B11;clear B10;have D2:=B11.drop.drop;clear B11;go_wp2_with(first|((with_reducible apply Za);(·exact rfl);(·exact ii))|((with_reducible apply Zb);(·exact rfl);(·exact rfl);(·exact ii)))
     (refine bodyPost_ret (Zt (z:=66) rfl _ _ _ _ rfl inferInstance Tryz.underlying39 rfl (by kernel_rfl)) rfl ?_)
     exact zG (wd':={ wd with snaps:=wd.snaps++[(id,wd.live)] }) (by unfold jN;simp only [HM.out];exact⟨⟨hi0,hi1⟩,HN.out,hl,rfl⟩) (by unfold KO;rw [List.length_append];rfl) (by rw [Zhx];infer_instance)
    ·clear hno;go_wp2_with(first|((with_reducible apply Za);(·exact rfl);(·exact ii))|((with_reducible apply Zb);(·exact rfl);(·exact rfl);(·exact ii)))
     (refine bodyPost_ret (Zt (z:=66) rfl _ _ _ _ rfl inferInstance Tryz.underlying39 rfl (by kernel_rfl)) rfl ?_)
     exact HNO.out _ _ _ (by decide) (ii:Bt W (λ _=>none) _ _)
  ·skip
   go_wp2_with(first|((with_reducible apply Za);(·exact rfl);(·exact ii))|((with_reducible apply Zb);(·exact rfl);(·exact rfl);(·exact ii)))
   (refine bodyPost_ret (Zt (z:=66) rfl _ _ _ _ rfl inferInstance Tryz.underlying39 rfl (by kernel_rfl)) rfl ?_)
   exact HNO.out _ _ _ (by decide) (ii:Bt W (λ _=>none) _ _)
 ·skip
  go_wp2_with(first|((with_reducible apply Za);(·exact rfl);(·exact ii))|((with_reducible apply Zb);(·exact rfl);(·exact rfl);(·exact ii)))
  (refine bodyPost_ret (Zt (z:=66) rfl _ _ _ _ rfl inferInstance Tryz.underlying39 rfl (by kernel_rfl)) rfl ?_)
  exact HNO.out _ _ _ (by decide) (ii:Bt W (λ _=>none) _ _)
end Go.Proofs.YtlfjdjndhcmliaaGreatDoor
