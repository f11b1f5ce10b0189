/- WholeGeoms, part 36. -/
import Derived.Test.YtlfjdjndhcmliaaGreatDoorA30
import Derived.BigGuard
import Derived.Test.YtlfjdjndhcmliaaGreatDoorA31
import Derived.Test.YtlfjdjndhcmliaaGreatDoorA32
import Derived.Test.YtlfjdjndhcmliaaGreatDoorA33
import Derived.Test.YtlfjdjndhcmliaaGreatDoorA34
import Derived.Test.YtlfjdjndhcmliaaGreatDoorA35
set_option maxRecDepth 100000
set_option maxHeartbeats 4000000
set_option linter.all false
namespace Go.Proofs.YtlfjdjndhcmliaaGreatDoor
open Go.RowKit Go.Sort
theorem rdo6 {wd:Wd} {ia sa:Option Addr} {icap scap:Nat} (o:WdOk wd) (h1:ia=none->icap=0) (h2:sa=none->scap=0) (hc1:wd.snaps.length<=icap) (hc2:wd.snaps.length<=scap) (W:World) [R1:RdS 1 ia wd.snaps.length icap (idC wd.snaps) W] [R2:RdS 64 sa wd.snaps.length scap (ssC wd.snaps) W] (d:UInt8) (id off n:Int) (fill:UInt8) (hm:(d.toNat:Int) % 8=6) :
  Calls Tryz.prog 18 #[.agg (wlW wd ia icap sa scap),.agg (AcV.mk d id off n fill).cs] W (RdoR (AcV.mk d id off n fill) wd ia icap sa scap W):=by
 have HM:Hid (d.toNat % 8=6):=Lib.hid (by omega)
 have hlen:=o.len
 obtain ⟨r,hr⟩:=fndR_ex id wd.snaps
 have FD:=λ (w:World) (_:RdS 1 ia wd.snaps.length icap (idC wd.snaps) w)=>rfind_fn (hasO wd.live) (txtO wd.live) (.slice sa wd.snaps.length scap) ia icap wd.snaps id r hr (by omega) w
 haveI B0:Bt W (λ _=>none) [SlP 3 1 none 0 0 [],SlP 35 64 none 0 0 []] W:=((Bt.zero W).more (SlP.nil 3 1 _)).more (SlP.nil 35 64 _)
 have NO:∀ (w:World) (l:List SP) (want:Int),want≠0->Bt W (λ _=>none) l w->RdoR (AcV.mk d id off n fill) wd ia icap sa scap W (.returned (.tuple #[.agg (wlC (hasO wd.live) (txtO wd.live) (.slice ia wd.snaps.length icap) (.slice sa wd.snaps.length scap)),.int .i64 want])) w:=λ w l want h B=>rdo_no h B
 have HNO:=Lib.hid NO
 clear NO
 have HR:=Lib.hid hr
 have HO:=Lib.hid o
 clear hr o
 unfold wlW
 simp only [AcV.cs]
 go_enter Tryz.func18,Tryz.ntmps18
 go_wp2_with (first | (with_reducible apply stopLeq) | (with_reducible apply wpList_allocW))
 rw [hm]
 refine ⟨?_⟩
 have hleq:∀ w:World,(binOp .leq 5 (.int .u8 6) (.int .u8 4)).run Tryz.prog w=.ok (.bool false) w:=λ w=>by kernel_rfl
 refine wpList_val (v:=.bool false) rfl (by simp only [execOp];first | exact hleq _ | (simp [go_sem,hleq];done)) ?_
 go_frame
 refine wpList_val (v:=.bool false) rfl (by simp only [execOp];first | rfl | simp [go_sem]) ?_
 go_frame
 go_big_skip
 clear hleq
 go_wp2_with (first | (with_reducible apply stopApp) | (with_reducible apply wpList_allocW) | ((with_reducible apply wpList_buildW);(·exact rfl)) | ((with_reducible apply wpList_load);(·exact rfl);(·exact ii)) | ((with_reducible apply wpList_store);(·exact rfl);(·exact rfl);(·exact ii)))
 refine Stopped.world (W:=W) (h:=λ _=>none) ii ?_
 intro w1 B1
 refine wpList_appM (ts:=36) B1 rfl rfl ii (B1.rds0 R1) h1 (idC_z _) (idC_one _) (by omega) (by decide) ?_
 intro ia1 ic1 w2 B2
 simp only [List.nil_append,Nat.zero_add] at B2 ⊢
 clear B1
 go_wp2_with (with_reducible apply stopApp)
 refine Stopped.world (W:=W) (h:=λ _=>none) ii ?_
 intro w3 B3
 clear B2
 refine wpList_appM (ts:=37) B3 rfl rfl ii (B3.rds0 R2) h2 (ssC_z _) (ssC_one _) (by omega) (by decide) ?_
 intro sa1 sc1 w4 B4
 simp only [List.nil_append,Nat.zero_add] at B4 ⊢
 clear B3
 go_wp2_with ((with_reducible apply wpList_load);(·exact rfl);(·exact ii))
 refine calls_bt (W:=W) (h:=λ _=>none) ii ?_
 intro w5 B5
 clear B4
 refine (FD w5 (B5.rds0 R1)).h.mono ?_
 rintro e w6 ⟨rfl,hb6⟩
 obtain ⟨g6,rfl⟩:=gr_of_below hb6
 have B7:Bt W (λ _=>none) _ (gr w5 g6):=ii
 clear hb6 B5 FD B0
 generalize gr w5 g6=w7 at B7 ⊢
 dsimp only
 rcases HR.out with ⟨i,T,rfl,hi2,hi3⟩ | ⟨rfl,hno⟩
 ·have hil:i < wd.snaps.length:=(List.getElem?_eq_some_iff.1 hi2).1
  have H2:=Lib.hid hi2
  obtain ⟨b8,o8,rfl,_,_⟩:=R1.cells i [.int .i64 id] (by simp [idC,hi2])
  obtain ⟨b9,o9,rfl,_,_⟩:=R2.cells i (seO T) (by simp [ssC,hi2])
  clear hi2 hi3
  obtain ⟨HL,hHL⟩:∃ HL:List SP,HL=[BlkP W.heap.size (wlC (hasO wd.live) (txtO wd.live) (.slice (some ⟨b8,o8,none⟩) wd.snaps.length icap) (.slice (some ⟨b9,o9,none⟩) wd.snaps.length scap)) 39]:=⟨_,rfl⟩
  have i1:∀ x:WIn (star HL),CellsIn x.w W.heap.size (wlC (hasO wd.live) (txtO wd.live) (.slice (some ⟨b8,o8,none⟩) wd.snaps.length icap) (.slice (some ⟨b9,o9,none⟩) wd.snaps.length scap)):=λ x=>cells_star x.h (k:=0) (by rw [hHL];rfl)
  have HHL:=Lib.hid hHL
  clear hHL
  have GH:=gc_hin (star HL)
  haveI:Nonempty (WIn (star HL)):=⟨⟨w7,by rw [HHL.out];exact in_one (i:=3) B7 rfl⟩⟩
  go_wp2_with fail
  have in37:In (star HL) w7:=by rw [HHL.out];exact in_one (i:=3) B7 rfl
  refine wp_region_planD (HIn (star HL)) [0,5,11] (.f [1,2,3,4,6,7,8,9,10] (.x [0] (.x [5] (.x [11] (.q [12] (.x [13] .d)))))) GH (HIn.of in37) (by kernel_rfl) (by kernel_rfl) ?_
  simp only [Plan.runC,pick,List.getElem?_cons_zero,List.getElem?_cons_succ,List.cons_append,List.nil_append]
  (repeat (first | ((with_reducible apply wpQuiet_load);(·exact rfl);(·rintro _ ⟨gq,rfl⟩;exact ii);go_frame) | go_big_quiet_step (exact qZ)));refine nZ ?_
  generalize hra:(if icap=i+1 then some (⟨b8,o8,none⟩:Addr) else some (⟨b8,o8+(i+1),none⟩:Addr))=ra
  have RR:RdS 1 ra (wd.snaps.length - (i+1)) (icap - (i+1)) ((idC wd.snaps).drop (i+1)) W:=by
   have h:=R1.rest (i+1) (icap - (i+1)) (by omega)
   have e:restA (some (⟨b8,o8,none⟩:Addr)) (i+1) icap 1=ra:=by rw [<-hra];unfold restA;split <;> simp [Addr.add]
   rwa [e] at h
  have hrn:ra=none->icap - (i+1)=0:=λ h=>by rw [<-hra] at h;split at h <;> cases h
  clear hra
  refine btI ?_
  intro w8 B8
  clear B7 in37
  go_wp2_with fail
  dsimp only [Nx]
  refine ⟨_,⟨gc_hin _,λ v hv=>hv⟩,λ _=>HIn.of (by rw [HHL.out];exact in_one (i:=4) ii rfl),?_⟩
  rintro w9 hw9
  have B9:Bt W (λ _=>none) _ w9:=Bt.head (q:=SlP 3 1 (some ⟨w8.heap.size,0,none⟩) 0 0 []) (btCls hw9) λ h p=>BlkP.slice0 p
  clear hw9 B8
  go_wp2_with (with_reducible apply stopApp)
  refine ⟨?_⟩
  refine wpList_appM (ts:=36) B9 rfl rfl ii ((B9.rds0 R1).take i (by omega) icap) (λ h=>by cases h) (λ y hy=>idC_z _ y (List.mem_of_mem_take hy)) (λ y hy=>idC_one _ y (List.mem_of_mem_take hy)) (by omega) (by decide) ?_
  intro ad3 c3 w10 B10
  simp only [List.nil_append,Nat.zero_add] at B10 ⊢
  clear B9
  go_wp2_with fail
  dsimp only [Nx]
  refine ⟨_,⟨gc_hin _,λ v hv=>hv⟩,λ _=>HIn.of (by rw [HHL.out];exact in_one (i:=4) B10 rfl),?_⟩
  rintro w11 hw11
  have B11:Bt W (λ _=>none) _ w11:=B10.cls hw11
  clear hw11 B10
  go_wp2_with (with_reducible apply stopApp)
  refine ⟨?_⟩
  refine wpList_appM (ts:=36) B11 rfl rfl ii (B11.rds0 RR) hrn (λ y hy=>idC_z _ y (List.mem_of_mem_drop hy)) (λ y hy=>idC_one _ y (List.mem_of_mem_drop hy)) (by omega) (by decide) ?_
  intro i4a i4c w12 B12
  clear B11
  go_wp2_with fail
  dsimp only [Nx]
  refine ⟨_,⟨gc_hin _,λ v hv=>hv⟩,λ _=>HIn.of (by rw [HHL.out];exact in_one (i:=4) B12 rfl),?_⟩
  (try go_frame)
  (repeat go_big_quiet_step (exact qZ));refine nZ ?_
  rintro w13 hw13
  have B13:Bt W (λ _=>none) _ w13:=B12.cls hw13
  clear hw13 B12
  go_wp2_with fail
  dsimp only [Nx]
  refine ⟨_,⟨gc_hin _,λ v hv=>hv⟩,λ h=>absurd h (by decide),?_⟩
  refine btI ?_
  intro w14 C37
  clear B13 RR hrn
  go_wp2_with fail
  have in38:In (star HL) w14:=by rw [HHL.out];exact in_one (i:=4) C37 rfl
  refine wp_region_planD (HIn (star HL)) [0,5,11] (.f [1,2,3,4,6,7,8,9,10] (.x [0] (.x [5] (.x [11] (.q [12] (.x [13] .d)))))) GH (HIn.of in38) (by kernel_rfl) (by kernel_rfl) ?_
  simp only [Plan.runC,pick,List.getElem?_cons_zero,List.getElem?_cons_succ,List.cons_append,List.nil_append]
  (repeat (first | ((with_reducible apply wpQuiet_load);(·exact rfl);(·rintro _ ⟨gq,rfl⟩;exact ii);go_frame) | go_big_quiet_step (exact qZ)));refine nZ ?_
  generalize hra:(if scap=i+1 then some (⟨b9,o9,none⟩:Addr) else some (⟨b9,o9+(i+1)*64,none⟩:Addr))=ra
  have RR:RdS 64 ra (wd.snaps.length - (i+1)) (scap - (i+1)) ((ssC wd.snaps).drop (i+1)) W:=by
   have h:=R2.rest (i+1) (scap - (i+1)) (by omega)
   have e:restA (some (⟨b9,o9,none⟩:Addr)) (i+1) scap 64=ra:=by rw [<-hra];unfold restA;split <;> simp [Addr.add]
   rwa [e] at h
  have hrn:ra=none->scap - (i+1)=0:=λ h=>by rw [<-hra] at h;split at h <;> cases h
  clear hra
  refine btI ?_
  intro w8 B8
  clear C37 in38
  go_wp2_with fail
  dsimp only [Nx]
  refine ⟨_,⟨gc_hin _,λ v hv=>hv⟩,λ _=>HIn.of (by rw [HHL.out];exact in_one (i:=5) ii rfl),?_⟩
  rintro w9 hw9
  have B9:Bt W (λ _=>none) _ w9:=Bt.head (q:=SlP 35 64 (some ⟨w8.heap.size,0,none⟩) 0 0 []) (btCls hw9) λ h p=>BlkP.slice0 p
  clear hw9 B8
  go_wp2_with (with_reducible apply stopApp)
  refine ⟨?_⟩
  refine wpList_appM (ts:=37) B9 rfl rfl ii ((B9.rds0 R2).take i (by omega) scap) (λ h=>by cases h) (λ y hy=>ssC_z _ y (List.mem_of_mem_take hy)) (λ y hy=>ssC_one _ y (List.mem_of_mem_take hy)) (by omega) (by decide) ?_
  intro ad3 c3 w10 B10
  simp only [List.nil_append,Nat.zero_add] at B10 ⊢
  clear B9
  go_wp2_with fail
  dsimp only [Nx]
  refine ⟨_,⟨gc_hin _,λ v hv=>hv⟩,λ _=>HIn.of (by rw [HHL.out];exact in_one (i:=5) B10 rfl),?_⟩
  rintro w11 hw11
  have B11:Bt W (λ _=>none) _ w11:=B10.cls hw11
  clear hw11 B10
  go_wp2_with (with_reducible apply stopApp)
  refine ⟨?_⟩
  refine wpList_appM (ts:=37) B11 rfl rfl ii (B11.rds0 RR) hrn (λ y hy=>ssC_z _ y (List.mem_of_mem_drop hy)) (λ y hy=>ssC_one _ y (List.mem_of_mem_drop hy)) (by omega) (by decide) ?_
  intro s4a s4c w12 B12
  clear B11
  go_wp2_with fail
  dsimp only [Nx]
  refine ⟨_,⟨gc_hin _,λ v hv=>hv⟩,λ _=>HIn.of (by rw [HHL.out];exact in_one (i:=5) B12 rfl),?_⟩
  (try go_frame)
  (repeat go_big_quiet_step (exact qZ));refine nZ ?_
  rintro w13 hw13
  have B13:Bt W (λ _=>none) _ w13:=B12.cls hw13
  clear hw13 B12
  go_wp2_with fail
  dsimp only [Nx]
  refine ⟨_,⟨gc_hin _,λ v hv=>hv⟩,λ h=>absurd h (by decide),?_⟩
  refine btI ?_
  intro w14 C38
  clear B13 RR hrn
  have D1:=Bt.oS (C38) [6,7,2,3,4,5,1,0]
  have D2:=D1.drop.drop
  clear C38 D1
  go_wp2_with (first | ((with_reducible apply wpList_load);(·exact rfl);(·exact ii)) | ((with_reducible apply wpList_store);(·exact rfl);(·exact rfl);(·exact ii)))
  (refine bodyPost_ret (results_ct (z:=66) rfl _ _ _ _ rfl inferInstance Tryz.underlying39 rfl (by kernel_rfl)) rfl ?_)
  exact rdo_yes (wd':={ wd with snaps:=wd.snaps.eraseIdx i }) (by unfold DoO;simp only [HM.out];exact ⟨i,T,H2.out,rfl⟩) (by unfold wlW;rw [len_erase _ _ hil]) (by rw [slW_erase _ _ hil];infer_instance)
 ·clear hno
  go_wp2_with (first | ((with_reducible apply wpList_load);(·exact rfl);(·exact ii)) | ((with_reducible apply wpList_store);(·exact rfl);(·exact rfl);(·exact ii)))
  (refine bodyPost_ret (results_ct (z:=66) rfl _ _ _ _ rfl inferInstance Tryz.underlying39 rfl (by kernel_rfl)) rfl ?_)
  exact HNO.out _ _ _ (by decide) (ii:Bt W (λ _=>none) _ _)
theorem rdo7 {wd:Wd} {ia sa:Option Addr} {icap scap:Nat} (o:WdOk wd) (h1:ia=none->icap=0) (h2:sa=none->scap=0) (hc1:wd.snaps.length<=icap) (hc2:wd.snaps.length<=scap) (W:World) [R1:RdS 1 ia wd.snaps.length icap (idC wd.snaps) W] [R2:RdS 64 sa wd.snaps.length scap (ssC wd.snaps) W] (d:UInt8) (id off n:Int) (fill:UInt8) (hm:(d.toNat:Int) % 8=7) :
  Calls Tryz.prog 18 #[.agg (wlW wd ia icap sa scap),.agg (AcV.mk d id off n fill).cs] W (RdoR (AcV.mk d id off n fill) wd ia icap sa scap W):=by
 have HM:Hid (d.toNat % 8=7):=Lib.hid (by omega)
 have hlen:=o.len
 obtain ⟨r,hr⟩:=fndR_ex id wd.snaps
 have FD:=λ (w:World) (_:RdS 1 ia wd.snaps.length icap (idC wd.snaps) w)=>rfind_fn (hasO wd.live) (txtO wd.live) (.slice sa wd.snaps.length scap) ia icap wd.snaps id r hr (by omega) w
 haveI B0:Bt W (λ _=>none) [SlP 3 1 none 0 0 [],SlP 35 64 none 0 0 []] W:=((Bt.zero W).more (SlP.nil 3 1 _)).more (SlP.nil 35 64 _)
 have NO:∀ (w:World) (l:List SP) (want:Int),want≠0->Bt W (λ _=>none) l w->RdoR (AcV.mk d id off n fill) wd ia icap sa scap W (.returned (.tuple #[.agg (wlC (hasO wd.live) (txtO wd.live) (.slice ia wd.snaps.length icap) (.slice sa wd.snaps.length scap)),.int .i64 want])) w:=λ w l want h B=>rdo_no h B
 have HNO:=Lib.hid NO
 clear NO
 have HR:=Lib.hid hr
 have HO:=Lib.hid o
 clear hr o
 unfold wlW
 simp only [AcV.cs]
 go_enter Tryz.func18,Tryz.ntmps18
 go_wp2_with (first | (with_reducible apply stopLeq) | (with_reducible apply wpList_allocW))
 rw [hm]
 refine ⟨?_⟩
 have hleq:∀ w:World,(binOp .leq 5 (.int .u8 7) (.int .u8 4)).run Tryz.prog w=.ok (.bool false) w:=λ w=>by kernel_rfl
 refine wpList_val (v:=.bool false) rfl (by simp only [execOp];first | exact hleq _ | (simp [go_sem,hleq];done)) ?_
 go_frame
 refine wpList_val (v:=.bool false) rfl (by simp only [execOp];first | rfl | simp [go_sem]) ?_
 go_frame
 go_big_skip
 clear hleq
 go_wp2_with (first | (with_reducible apply stopApp) | (with_reducible apply wpList_allocW) | ((with_reducible apply wpList_buildW);(·exact rfl)) | ((with_reducible apply wpList_load);(·exact rfl);(·exact ii)) | ((with_reducible apply wpList_store);(·exact rfl);(·exact rfl);(·exact ii)))
 refine Stopped.world (W:=W) (h:=λ _=>none) ii ?_
 intro w1 B1
 refine wpList_appM (ts:=36) B1 rfl rfl ii (B1.rds0 R1) h1 (idC_z _) (idC_one _) (by omega) (by decide) ?_
 intro ia1 ic1 w2 B2
 simp only [List.nil_append,Nat.zero_add] at B2 ⊢
 clear B1
 go_wp2_with (with_reducible apply stopApp)
 refine Stopped.world (W:=W) (h:=λ _=>none) ii ?_
 intro w3 B3
 clear B2
 refine wpList_appM (ts:=37) B3 rfl rfl ii (B3.rds0 R2) h2 (ssC_z _) (ssC_one _) (by omega) (by decide) ?_
 intro sa1 sc1 w4 B4
 simp only [List.nil_append,Nat.zero_add] at B4 ⊢
 clear B3
 go_wp2_with ((with_reducible apply wpList_load);(·exact rfl);(·exact ii))
 refine calls_bt (W:=W) (h:=λ _=>none) ii ?_
 intro w5 B5
 clear B4
 refine (FD w5 (B5.rds0 R1)).h.mono ?_
 rintro e w6 ⟨rfl,hb6⟩
 obtain ⟨g6,rfl⟩:=gr_of_below hb6
 have B7:Bt W (λ _=>none) _ (gr w5 g6):=ii
 clear hb6 B5 FD B0
 generalize gr w5 g6=w7 at B7 ⊢
 dsimp only
 rcases HR.out with ⟨i,T,rfl,hi2,hi3⟩ | ⟨rfl,hno⟩
 ·obtain ⟨b2,o2,rfl,hb2,hc2⟩:=(B7.rds0 R2).cells i (seO T) (by simp [ssC,hi2])
  haveI:SubAt b2 (o2+i*64) (seC (hasO T) (txtO T)) 64 w7:=⟨seC_size ..,hb2,λ j v e=>hc2 j v (by simpa [seC,seO] using e)⟩
  have hil:i < wd.snaps.length:=(List.getElem?_eq_some_iff.1 hi2).1
  have H2:=Lib.hid hi2
  clear hi2 hi3 hc2
  go_wp2_with (first | ((with_reducible apply wpList_load);(·exact rfl);(·exact ii)) | ((with_reducible apply wpList_store);(·exact rfl);(·exact rfl);(·exact ii)))
  (refine bodyPost_ret (results_ct (z:=66) rfl _ _ _ _ rfl inferInstance Tryz.underlying39 rfl (by kernel_rfl)) rfl ?_)
  exact rdo_yes (wd':={ wd with live:=T }) (by unfold DoO;simp only [HM.out];exact ⟨i,T,H2.out,rfl⟩) rfl ii
 ·clear hno
  go_wp2_with (first | ((with_reducible apply wpList_load);(·exact rfl);(·exact ii)) | ((with_reducible apply wpList_store);(·exact rfl);(·exact rfl);(·exact ii)))
  (refine bodyPost_ret (results_ct (z:=66) rfl _ _ _ _ rfl inferInstance Tryz.underlying39 rfl (by kernel_rfl)) rfl ?_)
  exact HNO.out _ _ _ (by decide) (ii:Bt W (λ _=>none) _ _)
theorem rdo_at (a:AcV) {wd:Wd} {ia sa:Option Addr} {icap scap:Nat} (o:WdOk wd) (h1:ia=none->icap=0) (h2:sa=none->scap=0) (hc1:wd.snaps.length<=icap) (hc2:wd.snaps.length<=scap) (W:World) (R1:RdS 1 ia wd.snaps.length icap (idC wd.snaps) W) (R2:RdS 64 sa wd.snaps.length scap (ssC wd.snaps) W) :
  Calls Tryz.prog 18 #[.agg (wlW wd ia icap sa scap),.agg a.cs] W (RdoR a wd ia icap sa scap W):=by
 obtain ⟨d,id,off,n,fill⟩:=a
 obtain ⟨m,hm⟩:∃ m:Nat,(d.toNat:Int) % 8=m:=⟨d.toNat % 8,by omega⟩
 by_cases hid:0<=id/\id<=31
 ·rcases (show m=3\/m=4\/m=5\/m=6\/m=7\/m < 3 by omega) with rfl | rfl | rfl | rfl | rfl | h0
  ·exact rdo3 o h1 h2 hc1 hc2 W d id off n fill hm hid
  ·exact rdo4 o h1 h2 hc1 hc2 W d id off n fill hm hid
  ·exact rdo5 o h1 h2 hc1 hc2 W d id off n fill hm
  ·exact rdo6 o h1 h2 hc1 hc2 W d id off n fill hm
  ·exact rdo7 o h1 h2 hc1 hc2 W d id off n fill hm
  ·exact rdo0 o h1 h2 hc1 hc2 W d id off n fill m hm h0 hid
 ·rcases (show m=5\/m=6\/m=7\/m<=4 by omega) with rfl | rfl | rfl | h4
  ·exact rdo5 o h1 h2 hc1 hc2 W d id off n fill hm
  ·exact rdo6 o h1 h2 hc1 hc2 W d id off n fill hm
  ·exact rdo7 o h1 h2 hc1 hc2 W d id off n fill hm
  ·exact rdo1 o h1 h2 hc1 hc2 W d id off n fill m hm h4 hid
end Go.Proofs.YtlfjdjndhcmliaaGreatDoor
