/- WholeOld, part 45. -/
import Derived.Test.YtlfjdjndhcmliaaGreatDoorA40
import Derived.BigGuard
set_option maxRecDepth 100000
set_option maxHeartbeats 4000000
set_option linter.all false
namespace Go.Proofs.YtlfjdjndhcmliaaGreatDoor
open Go.RowKit Go.Sort
theorem Zmi{wd:Wd}{ia sa:Option Addr}{icap scap:Nat}(o:KK wd)(h1:ia=none->icap=0)(h2:sa=none->scap=0)(hc1:wd.snaps.length<=icap)(hc2:wd.snaps.length<=scap)(W:World)[R1:Zy 1 ia wd.snaps.length icap (JI wd.snaps) W][R2:Zy 64 sa wd.snaps.length scap (yE wd.snaps) W](d:UInt8)(id off n:Int)(fill:UInt8)(hm:(d.toNat:Int)%8=6) :
  Calls Tryz.prog 18 #[.agg (KO wd ia icap sa scap),.agg (QE.mk d id off n fill).cs] W (zm (QE.mk d id off n fill) wd ia icap sa scap W):=by
 have HM:Hid (d.toNat%8=6):=Lib.hid (by omega);have hlen:=o.len;obtain⟨r,hr⟩:=JA id wd.snaps;have FD:=λ(w:World) (_:Zy 1 ia wd.snaps.length icap (JI wd.snaps) w)=>Q9 (Yi wd.live) (Yf wd.live) (.slice sa wd.snaps.length scap) ia icap wd.snaps id r hr (by omega) w
 haveI B0:Bt W (λ _=>none) [Zw 3 1 none 0 0 [],Zw 35 64 none 0 0 []] W:=((Bt.zero W).more (Zw.nil 3 1 _)).more (Zw.nil 35 64 _);have NO:∀(w:World)(l:List SP)(want:Int),want≠0->Bt W (λ _=>none) l w->zm (QE.mk d id off n fill) wd ia icap sa scap W (.returned (.tuple #[.agg (Yx (Yi wd.live) (Yf wd.live) (.slice ia wd.snaps.length icap) (.slice sa wd.snaps.length scap)),.int .i64 want])) w:=λ w l want h B=>yB h B
 have HNO:=Lib.hid NO;clear NO;have HR:=Lib.hid hr;have HO:=Lib.hid o;clear hr o;unfold KO;simp only [QE.cs]
 go_in
 go_wp2_with(first|(with_reducible apply Vm)|(with_reducible apply ZD));rw [hm];refine⟨?_⟩;have hleq:∀ w:World,(binOp .leq 5 (.int .u8 6) (.int .u8 4)).run Tryz.prog w=.ok (.bool false) w:=λ w=>by kernel_rfl
 refine Qo (v:=.bool false) rfl (by simp only [execOp];first|exact hleq _|(simp [go_sem,hleq];done)) ?_;go_frame;refine Qo (v:=.bool false) rfl (by simp only [execOp];first|rfl|simp [go_sem]) ?_;go_frame
 go_big_skip
 clear hleq;go_wp2_with(first|(with_reducible apply YJ)|(with_reducible apply ZD)|((with_reducible apply Xf);(·exact rfl))|((with_reducible apply Za);(·exact rfl);(·exact ii))|((with_reducible apply Zb);(·exact rfl);(·exact rfl);(·exact ii)));refine YI.world (W:=W) (h:=λ _=>none) ii ?_;intro w1 B1;refine ZN (ts:=36) B1 rfl rfl ii (B1.rds0 R1) h1 (jL _) (Jq _) (by omega) (by decide) ?_;intro ia1 ic1 w2 B2;simp only [List.nil_append,Nat.zero_add]at B2 ⊢;clear B1;go_wp2_with(with_reducible apply YJ);refine YI.world (W:=W) (h:=λ _=>none) ii ?_;intro w3 B3;clear B2;refine ZN (ts:=37) B3 rfl rfl ii (B3.rds0 R2) h2 (jA _) (Js _) (by omega) (by decide) ?_;intro sa1 sc1 w4 B4;simp only [List.nil_append,Nat.zero_add]at B4 ⊢;clear B3;go_wp2_with((with_reducible apply Za);(·exact rfl);(·exact ii));refine ZB (W:=W) (h:=λ _=>none) ii ?_;intro w5 B5;clear B4;refine(FD w5 (B5.rds0 R1)).h.mono ?_;rintro e w6 ⟨rfl,hb6⟩;obtain⟨g6,rfl⟩:=Zf hb6;have B7:Bt W (λ _=>none) _ (gr w5 g6):=ii;clear hb6 B5 FD B0;generalize gr w5 g6=w7 at B7 ⊢;dsimp only;rcases HR.out with ⟨i,T,rfl,hi2,hi3⟩|⟨rfl,hno⟩
 ·have hil:i<wd.snaps.length:=(List.getElem?_eq_some_iff.1 hi2).1;have H2:=Lib.hid hi2;obtain⟨b8,o8,rfl,_,_⟩:=R1.cells i [.int .i64 id] (by simp [JI,hi2]);obtain⟨b9,o9,rfl,_,_⟩:=R2.cells i (seO T) (by simp [yE,hi2]);clear hi2 hi3;obtain⟨HL,hHL⟩:∃ HL:List SP,HL=[Zd W.heap.size (Yx (Yi wd.live) (Yf wd.live) (.slice (some ⟨b8,o8,none⟩) wd.snaps.length icap) (.slice (some ⟨b9,o9,none⟩) wd.snaps.length scap)) 39]:=⟨_,rfl⟩
  have i1:∀ x:JD (star HL),Zh x.w W.heap.size (Yx (Yi wd.live) (Yf wd.live) (.slice (some ⟨b8,o8,none⟩) wd.snaps.length icap) (.slice (some ⟨b9,o9,none⟩) wd.snaps.length scap)):=λ x=>ZU x.h (k:=0) (by rw [hHL];rfl)
  have HHL:=Lib.hid hHL;clear hHL;have GH:=Zq (star HL);haveI:Nonempty (JD (star HL)):=⟨⟨w7,by rw [HHL.out];exact Ka (i:=3) B7 rfl⟩⟩
  go_wp2_with fail;have in37:In (star HL) w7:=by rw [HHL.out];exact Ka (i:=3) B7 rfl
  refine ZZ (YT (star HL)) [0,5,11] (.f [1,2,3,4,6,7,8,9,10] (.x [0] (.x [5] (.x [11] (.q [12] (.x [13] .d)))))) GH (YT.of in37) (by kernel_rfl) (by kernel_rfl) ?_;simp only [Zk.runC,pick,List.getElem?_cons_zero,List.getElem?_cons_succ,List.cons_append,List.nil_append]
  (repeat(first|((with_reducible apply Zc);(·exact rfl);(·rintro _ ⟨gq,rfl⟩;exact ii);go_frame)|go_big_quiet_step (exact qZ)));refine nZ ?_
  generalize hra:(if icap=i+1 then some (⟨b8,o8,none⟩:Addr)else some (⟨b8,o8+(i+1),none⟩:Addr))=ra
  have RR:Zy 1 ra (wd.snaps.length-(i+1)) (icap-(i+1)) ((JI wd.snaps).drop (i+1)) W:=by
   have h:=R1.rest (i+1) (icap-(i+1)) (by omega);have e:JQ (some (⟨b8,o8,none⟩:Addr)) (i+1) icap 1=ra:=by rw [<-hra];unfold JQ;split<;>simp [Addr.add]
   rwa [e]at h
  have hrn:ra=none->icap-(i+1)=0:=λ h=>by rw [<-hra]at h;split at h<;>cases h
  clear hra;refine Z4 ?_;intro w8 B8;clear B7 in37;go_wp2_with fail;dsimp only [Nx];refine⟨_,⟨Zq _,λ v hv=>hv⟩,λ _=>YT.of (by rw [HHL.out];exact Ka (i:=4) ii rfl),?_⟩;rintro w9 hw9;have B9:Bt W (λ _=>none) _ w9:=Bt.head (q:=Zw 3 1 (some ⟨w8.heap.size,0,none⟩) 0 0 []) (Ze hw9) λ h p=>Zd.slice0 p
  clear hw9 B8;go_wp2_with(with_reducible apply YJ);refine⟨?_⟩;refine ZN (ts:=36) B9 rfl rfl ii ((B9.rds0 R1).take i (by omega) icap) (λ h=>by cases h) (λ y hy=>jL _ y (List.mem_of_mem_take hy)) (λ y hy=>Jq _ y (List.mem_of_mem_take hy)) (by omega) (by decide) ?_;intro ad3 c3 w10 B10;simp only [List.nil_append,Nat.zero_add]at B10 ⊢;clear B9;go_wp2_with fail;dsimp only [Nx];refine⟨_,⟨Zq _,λ v hv=>hv⟩,λ _=>YT.of (by rw [HHL.out];exact Ka (i:=4) B10 rfl),?_⟩;rintro w11 hw11;have B11:Bt W (λ _=>none) _ w11:=B10.cls hw11;clear hw11 B10;go_wp2_with(with_reducible apply YJ);refine⟨?_⟩;refine ZN (ts:=36) B11 rfl rfl ii (B11.rds0 RR) hrn (λ y hy=>jL _ y (List.mem_of_mem_drop hy)) (λ y hy=>Jq _ y (List.mem_of_mem_drop hy)) (by omega) (by decide) ?_;intro i4a i4c w12 B12;clear B11;go_wp2_with fail;dsimp only [Nx];refine⟨_,⟨Zq _,λ v hv=>hv⟩,λ _=>YT.of (by rw [HHL.out];exact Ka (i:=4) B12 rfl),?_⟩
  (try go_frame)
  (repeat go_big_quiet_step (exact qZ));refine nZ ?_
  rintro w13 hw13;have B13:Bt W (λ _=>none) _ w13:=B12.cls hw13;clear hw13 B12;go_wp2_with fail;dsimp only [Nx];refine⟨_,⟨Zq _,λ v hv=>hv⟩,λ h=>absurd h (by decide),?_⟩;refine Z4 ?_;intro w14 C37;clear B13 RR hrn;go_wp2_with fail;have in38:In (star HL) w14:=by rw [HHL.out];exact Ka (i:=4) C37 rfl
  refine ZZ (YT (star HL)) [0,5,11] (.f [1,2,3,4,6,7,8,9,10] (.x [0] (.x [5] (.x [11] (.q [12] (.x [13] .d)))))) GH (YT.of in38) (by kernel_rfl) (by kernel_rfl) ?_;simp only [Zk.runC,pick,List.getElem?_cons_zero,List.getElem?_cons_succ,List.cons_append,List.nil_append]
  (repeat(first|((with_reducible apply Zc);(·exact rfl);(·rintro _ ⟨gq,rfl⟩;exact ii);go_frame)|go_big_quiet_step (exact qZ)));refine nZ ?_
  generalize hra:(if scap=i+1 then some (⟨b9,o9,none⟩:Addr)else some (⟨b9,o9+(i+1)*64,none⟩:Addr))=ra
  have RR:Zy 64 ra (wd.snaps.length-(i+1)) (scap-(i+1)) ((yE wd.snaps).drop (i+1)) W:=by
   have h:=R2.rest (i+1) (scap-(i+1)) (by omega);have e:JQ (some (⟨b9,o9,none⟩:Addr)) (i+1) scap 64=ra:=by rw [<-hra];unfold JQ;split<;>simp [Addr.add]
   rwa [e]at h
  have hrn:ra=none->scap-(i+1)=0:=λ h=>by rw [<-hra]at h;split at h<;>cases h
  clear hra;refine Z4 ?_;intro w8 B8;clear C37 in38;go_wp2_with fail;dsimp only [Nx];refine⟨_,⟨Zq _,λ v hv=>hv⟩,λ _=>YT.of (by rw [HHL.out];exact Ka (i:=5) ii rfl),?_⟩;rintro w9 hw9;have B9:Bt W (λ _=>none) _ w9:=Bt.head (q:=Zw 35 64 (some ⟨w8.heap.size,0,none⟩) 0 0 []) (Ze hw9) λ h p=>Zd.slice0 p
  clear hw9 B8;go_wp2_with(with_reducible apply YJ);refine⟨?_⟩;refine ZN (ts:=37) B9 rfl rfl ii ((B9.rds0 R2).take i (by omega) scap) (λ h=>by cases h) (λ y hy=>jA _ y (List.mem_of_mem_take hy)) (λ y hy=>Js _ y (List.mem_of_mem_take hy)) (by omega) (by decide) ?_;intro ad3 c3 w10 B10;simp only [List.nil_append,Nat.zero_add]at B10 ⊢;clear B9;go_wp2_with fail;dsimp only [Nx];refine⟨_,⟨Zq _,λ v hv=>hv⟩,λ _=>YT.of (by rw [HHL.out];exact Ka (i:=5) B10 rfl),?_⟩;rintro w11 hw11;have B11:Bt W (λ _=>none) _ w11:=B10.cls hw11;clear hw11 B10;go_wp2_with(with_reducible apply YJ);refine⟨?_⟩;refine ZN (ts:=37) B11 rfl rfl ii (B11.rds0 RR) hrn (λ y hy=>jA _ y (List.mem_of_mem_drop hy)) (λ y hy=>Js _ y (List.mem_of_mem_drop hy)) (by omega) (by decide) ?_;intro s4a s4c w12 B12;clear B11;go_wp2_with fail;dsimp only [Nx];refine⟨_,⟨Zq _,λ v hv=>hv⟩,λ _=>YT.of (by rw [HHL.out];exact Ka (i:=5) B12 rfl),?_⟩
  (try go_frame)
  (repeat go_big_quiet_step (exact qZ));refine nZ ?_
  rintro w13 hw13;have B13:Bt W (λ _=>none) _ w13:=B12.cls hw13;clear hw13 B12;go_wp2_with fail;dsimp only [Nx];refine⟨_,⟨Zq _,λ v hv=>hv⟩,λ h=>absurd h (by decide),?_⟩;refine Z4 ?_;intro w14 C38;clear B13 RR hrn;have D1:=Bt.oS (C38) [6,7,2,3,4,5,1,0];have D2:=D1.drop.drop;clear C38 D1;go_wp2_with(first|((with_reducible apply Za);(·exact rfl);(·exact ii))|((with_reducible apply Zb);(·exact rfl);(·exact rfl);(·exact ii)))
  (refine bodyPost_ret (Zt (z:=66) rfl _ _ _ _ rfl inferInstance Tryz.underlying39 rfl (by kernel_rfl)) rfl ?_)
  exact zG (wd':={ wd with snaps:=wd.snaps.eraseIdx i }) (by unfold jN;simp only [HM.out];exact⟨i,T,H2.out,rfl⟩) (by unfold KO;rw [U8 _ _ hil]) (by rw [Ze1 _ _ hil];infer_instance)
 ·clear hno;go_wp2_with(first|((with_reducible apply Za);(·exact rfl);(·exact ii))|((with_reducible apply Zb);(·exact rfl);(·exact rfl);(·exact ii)))
  (refine bodyPost_ret (Zt (z:=66) rfl _ _ _ _ rfl inferInstance Tryz.underlying39 rfl (by kernel_rfl)) rfl ?_)
  exact HNO.out _ _ _ (by decide) (ii:Bt W (λ _=>none) _ _)
end Go.Proofs.YtlfjdjndhcmliaaGreatDoor
