/- WholeOld, part 42. -/
import Derived.Test.YtlfjdjndhcmliaaGreatDoorA40
import Derived.BigGuard
set_option maxRecDepth 100000
set_option maxHeartbeats 4000000
set_option linter.all false
namespace Go.Proofs.YtlfjdjndhcmliaaGreatDoor
open Go.RowKit Go.Sort
theorem Zoy{wd:Wd}{ia sa:Option Addr}{icap scap:Nat}(o:KK wd)(h1:ia=none->icap=0)(h2:sa=none->scap=0)(hc1:wd.snaps.length<=icap)(hc2:wd.snaps.length<=scap)(W:World)[R1:Zy 1 ia wd.snaps.length icap (JI wd.snaps) W][R2:Zy 64 sa wd.snaps.length scap (yE wd.snaps) W](d:UInt8)(id off n:Int)(fill:UInt8)(m:Nat)(hm:(d.toNat:Int)%8=m)(h4:m<=4)(hid:¬ (0<=id/\id<=31)) :
  Calls Tryz.prog 18 #[.agg (KO wd ia icap sa scap),.agg (QE.mk d id off n fill).cs] W (zm (QE.mk d id off n fill) wd ia icap sa scap W):=by
 have hlen:=o.len;obtain⟨r,hr⟩:=JA id wd.snaps;have FD:=λ(w:World) (_:Zy 1 ia wd.snaps.length icap (JI wd.snaps) w)=>Q9 (Yi wd.live) (Yf wd.live) (.slice sa wd.snaps.length scap) ia icap wd.snaps id r hr (by omega) w
 haveI B0:Bt W (λ _=>none) [Zw 3 1 none 0 0 [],Zw 35 64 none 0 0 []] W:=((Bt.zero W).more (Zw.nil 3 1 _)).more (Zw.nil 35 64 _);have NO:∀(w:World)(l:List SP)(want:Int),want≠0->Bt W (λ _=>none) l w->zm (QE.mk d id off n fill) wd ia icap sa scap W (.returned (.tuple #[.agg (Yx (Yi wd.live) (Yf wd.live) (.slice ia wd.snaps.length icap) (.slice sa wd.snaps.length scap)),.int .i64 want])) w:=λ w l want h B=>yB h B
 have HNO:=Lib.hid NO;clear NO;have HR:=Lib.hid hr;have HO:=Lib.hid o;clear hr o;unfold KO;simp only [QE.cs]
 by_cases hi0:0<=id
 ·go_in
  go_wp2_with(first|(with_reducible apply ZD)|((with_reducible apply Za);(·exact rfl);(·exact ii))|((with_reducible apply Zb);(·exact rfl);(·exact rfl);(·exact ii)))
  (refine bodyPost_ret (Zt (z:=66) rfl _ _ _ _ rfl inferInstance Tryz.underlying39 rfl (by kernel_rfl)) rfl ?_)
  exact HNO.out _ _ _ (by decide) (ii:Bt W (λ _=>none) _ _)
 ·go_in
  go_wp2_with(first|(with_reducible apply ZD)|((with_reducible apply Za);(·exact rfl);(·exact ii))|((with_reducible apply Zb);(·exact rfl);(·exact rfl);(·exact ii)))
  (refine bodyPost_ret (Zt (z:=66) rfl _ _ _ _ rfl inferInstance Tryz.underlying39 rfl (by kernel_rfl)) rfl ?_)
  exact HNO.out _ _ _ (by decide) (ii:Bt W (λ _=>none) _ _)
end Go.Proofs.YtlfjdjndhcmliaaGreatDoor
