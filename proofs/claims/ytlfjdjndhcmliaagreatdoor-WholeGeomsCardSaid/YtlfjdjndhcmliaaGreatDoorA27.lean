/- WholeGeoms, part 27. -/
import Derived.Test.YtlfjdjndhcmliaaGreatDoorA26
import Derived.Test.YtlfjdjndhcmliaaGreatDoorA19
set_option maxRecDepth 100000
set_option maxHeartbeats 4000000
set_option linter.all false
namespace Go.Proofs.YtlfjdjndhcmliaaGreatDoor
open Go.RowKit Go.Sort
instance (priority:=low) cellsInL (b:Nat) (X:Array Value) (l:List Value) (W:World) [k:CellsIn W b X] [t:ToL X l]:CellsAt b l W:=⟨CellsIn.old k,λ j v e=>by rw [cell_in W b j X,t.e];simpa using e⟩
def SnO (id:Int) (l:List Sn):Prop:=(0<=id/\id<=99)/\l.any (hasId id)=false/\l.length < 4
theorem SnD.snoc {K:KS} {txg:Nat} {l:List Sn} {id:Int} {live:Nd} (d:SnD K txg l) (s:SnO id l) (ho:∃ g,Ob K live g):SnD K txg (l++[⟨id,(txg+1:Nat),live⟩]):=by
 obtain ⟨s1,s2,s3⟩:=s
 have hx:∀ x∈l++[(⟨id,((txg+1:Nat):Int),live⟩:Sn)],x∈l\/x=⟨id,((txg+1:Nat):Int),live⟩:=λ x hx=>by simpa using hx
 have hg:∀ (k:Nat) (x:Sn),(l++[(⟨id,((txg+1:Nat):Int),live⟩:Sn)])[k]?=some x->l[k]?=some x\/(k=l.length/\x=⟨id,((txg+1:Nat):Int),live⟩):=λ k x h=>by
  rcases Nat.lt_or_ge k l.length with h1 | h1
  ·rw [List.getElem?_append_left h1] at h;exact .inl h
  ·rw [List.getElem?_append_right h1] at h
   have h2:=(List.getElem?_eq_some_iff.1 h).1
   simp at h2
   obtain rfl:k=l.length:=by omega
   simp at h
   exact .inr ⟨rfl,h.symm⟩
 refine ⟨by simp;omega,λ x h=>?_,λ x h=>?_,λ x h=>?_,λ k x y h1 h2=>?_,λ j k x y h1 h2 hjk=>?_⟩
 ·rcases hx x h with h | rfl
  ·exact d.id x h
  ·exact s1
 ·rcases hx x h with h | rfl
  ·exact d.txg x h
  ·exact ⟨by show (1:Int)<=((txg+1:Nat):Int);omega,by show ((txg+1:Nat):Int)<=_;omega⟩
 ·rcases hx x h with h | rfl
  ·exact d.dir x h
  ·exact ho
 ·rcases hg _ _ h2 with h3 | ⟨h3,rfl⟩
  ·rcases hg _ _ h1 with h4 | ⟨h4,rfl⟩
   ·exact d.up k x y h4 h3
   ·have:=(List.getElem?_eq_some_iff.1 h3).1;omega
  ·rcases hg _ _ h1 with h4 | ⟨h4,rfl⟩
   ·have:=d.txg x (List.mem_of_getElem? h4)
    show x.txg<=((txg+1:Nat):Int)
    omega
   ·omega
 ·rcases hg _ _ h2 with h3 | ⟨h3,rfl⟩
  ·rcases hg _ _ h1 with h4 | ⟨h4,rfl⟩
   ·exact d.ne j k x y h4 h3 hjk
   ·have:=(List.getElem?_eq_some_iff.1 h3).1;omega
  ·rcases hg _ _ h1 with h4 | ⟨h4,rfl⟩
   ·intro e
    have h5:=List.any_eq_false.1 s2 x (List.mem_of_getElem? h4)
    simp [hasId] at h5
    exact h5 e
   ·omega
section
variable {V:VD} {pb txg:Nat} {root live:Nd} {l:List Sn} {K:KS} {C:Nat}
theorem osn1_tq (ht:txg+1<=4294967295) (ho:∃ g,Ob K live g) (sn:SnD K txg l) (id:Int) (b1 b2:Nat) (wk:Nat) :
  Tq 102 (#[pV wk]++#[pV b1,pV b2]) (star [WkP V pb txg root live l K wk true live l K C,star [BlkP b1 #[.int .i64 id] 3,BlkP b2 #[pV pb] 27]])
   (ActR V pb txg root live l K wk C (star [BlkP b1 #[.int .i64 id] 3,BlkP b2 #[pV pb] 27]) λ live' l' K'=>SnO id l/\live'=live/\l'=l++[⟨id,(txg+1:Nat),live⟩]):=by
 refine Tq.of λ W h B0=>?_
 have B1:=Bt.oS (B0.flat) [1,0]
 have B2:=Bt.oS (B1.flat) [2,0,1]
 obtain ⟨sa,scap,ra,rcap,bb,wb,sb,ms,es,st0,st,mt,sa',scap',ra',rcap',⟨ss,us,hC9,hf⟩,B3⟩:=B2.wk
 clear hf B0 B1 B2
 have B4:=Bt.oS (B3) [1,2,3,6,7,0,4,5,8,9]
 have B:=B4.app [_,_,_,_,_]
 clear B3 B4
 obtain ⟨R0,hR0⟩:∃ R0,star [SlP 125 15 sa l.length scap (snC l),SlP 92 2 ra V.ds.length rcap (zrC V.ds.length),BookC wb sb V.secs ms es,SlP 92 2 ra' V.ds.length rcap' (zrC V.ds.length),StP V st bb sb (txg+1) 40 mt K C]=R0:=⟨_,rfl⟩
 rw [hR0] at B
 have HR0:=Lib.hid hR0
 clear hR0
 have FIN:∀ (w9:World) (l':List Sn) (sa2:Option Addr) (scap2:Nat),Bt W h [R0,BlkP pb (poC V txg root live (.slice sa l.length scap) (.slice ra V.ds.length rcap) (pV bb) (pV wk) (pV wb)) 82,BlkP wk (wkC st0 live (.slice sa2 l'.length scap2) (.slice ra' V.ds.length rcap')) 188,SlP 125 15 sa2 l'.length scap2 (snC l'),BlkP b1 #[.int .i64 id] 3,BlkP b2 #[pV pb] 27] w9 ->
   Turns W h (star [WkP V pb txg root live l K wk false live l' K C,star [BlkP b1 #[.int .i64 id] 3,BlkP b2 #[pV pb] 27]]) w9:=λ w9 l' sa2 scap2 B=>by
  rw [<-HR0.out] at B
  have B3:=B.flat
  have B4:=Bt.oS (B3) [5,0,1,2,6,7,3,4,8,9]
  have B7:=Bt.wk_shut (wk:=wk) (fresh:=false) (st0:=st0) (st:=st) (mt:=mt) (es:=es) (ra':=ra') (rcap':=rcap') (sa':=sa2) (scap':=scap2) (sa:=sa) (scap:=scap) (ra:=ra) (rcap:=rcap) (bb:=bb) (wb:=wb) (ms:=ms) (sb:=sb) ⟨ss,us,hC9,λ h=>by cases h⟩ B4
  have B8:=Bt.oS (B7) [1,2,0]
  exact (((B8.app [_,_]).perm (List.Perm.swap ..)).app [_,_]).fin_at 0 rfl
 have hl:=sn.len
 have F:=λ w (_:RdS 15 sa' l.length scap' (snC l) w)=>find_fn live sa' scap' l (.slice ra' V.ds.length rcap') w id hl
 have hc:id < 0\/(0<=id/\99 < id)\/((0<=id/\id<=99)/\l.any (hasId id)=true)\/((0<=id/\id<=99)/\l.any (hasId id)=false/\4<=l.length)\/SnO id l:=by
  unfold SnO
  cases l.any (hasId id) <;> simp <;> omega
 obtain ⟨fa,hfa⟩:∃ fa,l.any (hasId id)=fa:=⟨_,rfl⟩
 unfold SnO at hc
 rw [hfa] at F hc
 have Hfa:=Lib.hid hfa
 clear hfa
 have F1:∀ w,[RdS 15 sa' l.length scap' (snC l) w]->Fn 103 #[.agg (mC live (.slice sa' l.length scap') (.slice ra' V.ds.length rcap')),.int .i64 id] w (.tuple #[.int .i64 (imax (ixI (hasId id) l) 0),.bool fa]):=λ w i=>F w i
 have TX:∀ w,[CellsIn w pb (poC V txg root live (.slice sa l.length scap) (.slice ra V.ds.length rcap) (pV bb) (pV wk) (pV wb))]->Fn 26 #[pV pb] w (.int .i64 ((txg+1:Nat):Int)):=λ w _=>txg_fn V pb txg root live _ _ _ _ _ w _ (by omega) (by omega) (by omega)
 haveI:=(rd_sl B (i:=3) rfl).1
 clear F us ss hC9
 show Calls Tryz.prog 102 #[pV wk,pV b1,pV b2] W _
 rcases hc with h1 | ⟨h0,h1⟩ | ⟨⟨h0,h1⟩,rfl⟩ | ⟨⟨h0,h1⟩,rfl,h4⟩ | ⟨⟨h0,h1⟩,rfl,h4⟩
 case inr.inr.inr.inr =>
  go_enter Tryz.func102,Tryz.ntmps102
  go_wp2_with fail
  (first | (with_reducible refine pl2 (.q [0,1,2,3,4] (.x [5] (.q [6,7,8,9,10] .d))) ?_) | refine pl1 (.q [0,1,2,3,4] (.x [5] (.q [6,7,8,9,10] .d))) ?_);simp only [Plan.run,pick,gZ,gS,gA,gN]
  (repeat (first | ((with_reducible apply wpQuiet_load);(·exact rfl);(·rintro _ ⟨gq,rfl⟩;exact ii);go_frame) | go_big_quiet_step (exact qZ)));refine nZ ?_
  rintro w1 hw1
  have B1:Bt W h _ w1:=btCls hw1
  haveI:RdS 15 sa' l.length scap' (snC l) w1:=(rd_sl B1 (i:=3) rfl).1
  clear hw1 B
  go_wp2_with (with_reducible refine Fn.go λ g=>?_)
  dsimp only [Nx]
  (repeat go_big_quiet_step (exact qZ));refine nZ ?_
  rintro w2 hw2
  have B2:Bt W h [_,_,BlkP wk (wkC st0 live (.slice sa' l.length scap') (.slice ra' V.ds.length rcap')) 188,_,_,_] w2:=btCls hw2
  clear hw2 B1
  go_wp2_with fail
  obtain ⟨HL,hHL⟩:∃ HL:List SP,HL=[BlkP wk (wkC st0 live (.slice sa' l.length scap') (.slice ra' V.ds.length rcap')) 188]:=⟨_,rfl⟩
  have in0:In (star HL) w2:=by
   rw [hHL]
   have BX:=Bt.oS (B2) [2,0,1,3,4,5]
   obtain ⟨h0,p,hw⟩:=(BX.app [_]).mem (i:=0) rfl
   exact ⟨h0,p,hw⟩
  have i1:∀ x:WIn (star HL),CellsIn x.w wk (wkC st0 live (.slice sa' l.length scap') (.slice ra' V.ds.length rcap')):=λ x=>cells_star x.h (k:=0) (by rw [hHL];rfl)
  clear hHL
  have GH:=gc_hin (star HL)
  haveI:Nonempty (WIn (star HL)):=⟨⟨w2,in0⟩⟩
  refine wp_region_planD (HIn (star HL)) [15] (.q [6,7,8,9,10,11,12,13,14] (.f [1,2,3,4,5] (.c 0 (.x [15] (.x [16] (.q [17,18,19] (.x [20] .d))))))) GH (HIn.of in0) (by kernel_rfl) (by kernel_rfl) ?_
  simp only [Plan.runC,pick,List.getElem?_cons_zero,List.getElem?_cons_succ,List.cons_append,List.nil_append]
  (repeat (first | ((with_reducible apply wpQuiet_load);(·exact rfl);(·rintro _ ⟨gq,rfl⟩;exact ii);go_frame) | go_big_quiet_step (exact qZ)));refine nZ ?_
  (repeat (first | ((with_reducible apply wpQuiet_load);(·exact rfl);(·rintro _ ⟨gq,rfl⟩;exact ii);go_frame) | go_big_quiet_step (exact qZ)));refine nZ ?_
  (repeat (first | ((with_reducible apply wpQuiet_load);(·exact rfl);(·rintro _ ⟨gq,rfl⟩;exact ii);go_frame) | go_big_quiet_step (exact qZ)));refine nZ ?_
  rintro w3 hw3
  have B3:Bt W h _ w3:=btCls hw3
  haveI in3:In (star HL) w3:=by obtain ⟨g,rfl⟩:=hw3;infer_instance
  clear hw3 B2
  go_wp2_with fail
  dsimp only [Nx]
  refine ⟨_,⟨gc_hin _,λ v hv=>hv⟩,λ _=>HIn.of ii,?_⟩
  refine btI ?_
  intro w4 B4
  clear B3
  go_wp2_with (at_builtin;(with_reducible apply wpList_appT);(·exact rfl);(·exact rfl);(·exact ii);(·exact ii);(·exact ii);(·exact rfl);(·decide);(·omega);intro gA capA wA bA;(try dsimp only at bA))
  dsimp only [Nx]
  refine ⟨_,⟨gc_hin _,λ v hv=>hv⟩,λ h=>absurd h (by decide),?_⟩
  (try go_frame)
  (repeat go_big_quiet_step (exact qZ));refine nZ ?_
  rintro w6 hw6
  have B6:Bt W h _ w6:=bA.cls hw6
  clear hw6 bA B4
  go_wp2_with fail
  dsimp only [Nx]
  refine ⟨_,⟨gc_hin _,λ v hv=>hv⟩,λ h=>absurd h (by decide),?_⟩
  rintro w7 hw7
  have B7:Bt W h [_,R0,BlkP pb _ _,BlkP wk (wkC st0 live (.slice (some ⟨gA,0,none⟩) (l.length+1) capA) (.slice ra' V.ds.length rcap')) 188,SlP 125 15 (some ⟨gA,0,none⟩) (l.length+1) capA (snC l++[(⟨id,(txg+1:Nat),live⟩:Sn).cs]),BlkP b1 _ _,BlkP b2 _ _] w7:=btCls hw7
  clear hw7 B6
  go_wp2_with fail
  go_ret
  (first | apply fin_a | apply fin_b)
  have e1:(l++[(⟨id,((txg+1:Nat):Int),live⟩:Sn)]).length=l.length+1:=by simp
  have e2:snC (l++[(⟨id,((txg+1:Nat):Int),live⟩:Sn)])=snC l++[(⟨id,((txg+1:Nat):Int),live⟩:Sn).cs]:=by simp [snC]
  rw [<-e1,<- e2] at B7
  have so:SnO id l:=⟨⟨h0,h1⟩,Hfa.out,h4⟩
  exact ⟨.inr ⟨live,_,K,rfl,KS.le.refl K,⟨ho,sn.snoc so ho⟩,⟨so,rfl,rfl⟩,rfl⟩,FIN _ _ _ _ B7.drop⟩
 all_goals
  go_enter Tryz.func102,Tryz.ntmps102
  go_wp2_with fail
  (first | (with_reducible refine pl2 (.q [0,1,2,3,4] (.x [5] (.q [6,7,8,9,10] .d))) ?_) | refine pl1 (.q [0,1,2,3,4] (.x [5] (.q [6,7,8,9,10] .d))) ?_);simp only [Plan.run,pick,gZ,gS,gA,gN]
  (repeat (first | ((with_reducible apply wpQuiet_load);(·exact rfl);(·rintro _ ⟨gq,rfl⟩;exact ii);go_frame) | go_big_quiet_step (exact qZ)));refine nZ ?_
  rintro w1 hw1
  have B1:Bt W h _ w1:=btCls hw1
  haveI:RdS 15 sa' l.length scap' (snC l) w1:=(rd_sl B1 (i:=3) rfl).1
  clear hw1 B
  go_wp2_with (with_reducible refine Fn.go λ g=>?_)
  dsimp only [Nx]
  (repeat go_big_quiet_step (exact qZ));refine nZ ?_
  refine btI ?_
  intro w2 B2
  clear B1
  go_wp2_with fail
  go_ret
  (first | apply fin_a | apply fin_b)
  exact ⟨.inl ⟨_,live,l,K,by decide,rfl,KS.le.refl K,rfl⟩,FIN _ l sa' scap' B2⟩
end
def SpO (id:Int) (wd wd':Wd):Prop:=(0<=id/\id<=99)/\(∀ y∈wd.snaps,y.1≠id)/\wd.snaps.length < 4/\wd'={ wd with snaps:=wd.snaps++[(id,wd.live)] }
theorem map_len {l:List Sn} {s:List (Int × Objs)} (h:l.map Sn.id=s.map Prod.fst):l.length=s.length:=by simpa using congrArg List.length h
section
variable {V:VD} {pb txg:Nat} {root:Nd} {C:Nat} {K0:KS} {wd:Wd}
theorem osnap_tq (ht:txg+1<=4294967295) (id:Int) :
  Tq 56 #[pV pb,.int .i64 id] (PoS V pb txg root C K0 wd) (OpR V pb txg root C K0 wd (SpO id wd)):=by
 refine Tq.of λ W h B0=>?_
 obtain ⟨K,live,l,⟨hK0,ok⟩,B⟩:=B0.pos
 clear B0
 have CH:=λ b1 b2=>changed_tq (V:=V) (pb:=pb) (root:=root) ht ok.sn.len 102 (by kernel_rfl) #[pV b1,pV b2] (osn1_tq (C:=C) ht ok.live.ob ok.sn id b1 b2)
 have Ok:=Lib.hid ok
 clear ok
 go_enter Tryz.func56,Tryz.ntmps56
 go_wp2_with fail
 refine calls_bt (W:=W) (h:=h) (l:=[_,_,PoP V pb txg root live l K C]) ii ?_
 rintro w1 B1
 have B2:=B1.app [_,_]
 haveI B4:=(B2.perm (List.Perm.swap ..)).app [_,_]
 clear B B1 B2
 refine (Bt.call (CH _ _)).mono ?_
 rintro e w2 ⟨v,q,rfl,hR,B5⟩
 clear B4 CH
 dsimp only
 rcases hR with ⟨e,he,rfl,rfl⟩ | ⟨live',l',K',rfl,hK,⟨so,rfl,rfl⟩,rfl⟩
 ·go_wp2_with fail
  go_ret
  (first | apply fin_a | apply fin_b)
  exact ⟨.inl ⟨e,he,rfl,rfl⟩,(B5.flat.head λ h q=>⟨K,live,l,⟨hK0,Ok.out⟩,q⟩).fin_at 0 rfl⟩
 ·have So:=Lib.hid so
  clear so
  go_wp2_with fail
  go_ret
  (first | apply fin_a | apply fin_b)
  have ok:=Ok.out
  obtain ⟨s1,s2,s3⟩:=So.out
  have hln:=map_len ok.ids
  have wo:WOk K' txg live' (l++[⟨id,(txg+1:Nat),live'⟩]) { wd with snaps:=wd.snaps++[(id,wd.live)] }:=by
   have o1:=ok.mono hK (Nat.le_refl _)
   refine ⟨o1.live,by simp [ok.ids],λ k x y h1 h2=>?_,o1.sn.snoc So.out o1.live.ob⟩
   rcases Nat.lt_or_ge k l.length with hk | hk
   ·rw [List.getElem?_append_left hk] at h1
    rw [List.getElem?_append_left (by omega)] at h2
    exact o1.dirs k x y h1 h2
   ·rw [List.getElem?_append_right hk] at h1
    rw [List.getElem?_append_right (by omega)] at h2
    have hk2:=(List.getElem?_eq_some_iff.1 h1).1
    simp at hk2
    obtain rfl:k=l.length:=by omega
    simp at h1
    rw [show l.length - wd.snaps.length=0 by omega] at h2
    simp at h2
    rw [<-h1,<- h2]
    exact o1.live
  refine ⟨.inr ⟨_,rfl,⟨s1,λ y hy=>?_,by omega,rfl⟩,rfl⟩,(B5.flat.head λ h q=>⟨K',live',_,⟨hK0.trans hK,wo⟩,q⟩).fin_at 0 rfl⟩
  intro e
  have h5:y.1∈l.map Sn.id:=by rw [ok.ids];exact List.mem_map_of_mem hy
  obtain ⟨x,hx,hxe⟩:=List.mem_map.1 h5
  have h6:=List.any_eq_false.1 s2 x hx
  simp [hasId] at h6
  exact h6 (hxe.trans e)
end
theorem rd_cells {z m c:Nat} {a2:Addr} {ys:List (List Value)} {W:World} (kpos:0 < z) (hr:RdS z (some a2) m c ys W) (hz:∀ y∈ys,y.length=z):∀ (j:Nat) (u:Value),ys.flatten[j]?=some u->W.cell? (a2.add j)=some u:=λ j u hj=>by
 have hl:=flat_len hz
 have hjl:j < ys.length*z:=by rw [<-hl];exact (List.getElem?_eq_some_iff.1 hj).1
 have hq:j / z < ys.length:=Nat.div_lt_of_lt_mul (by rw [Nat.mul_comm];exact hjl)
 have hm:j % z < z:=Nat.mod_lt _ kpos
 have e:j=j / z*z+j % z:=by rw [Nat.mul_comm];exact (Nat.div_add_mod ..).symm
 have hy:=List.getElem?_eq_getElem hq
 have h2:=flat_at ys z (j / z) (j % z) _ hz hy hm
 rw [<-e,hj] at h2
 obtain ⟨b,o,he,hb,hc⟩:=hr.cells _ _ hy
 obtain rfl:a2=⟨b,o,none⟩:=by injection he
 have h3:=hc _ _ h2.symm
 have e2:(⟨b,o,none⟩:Addr).add j=⟨b,o+j / z*z+j % z,none⟩:=by
  have:o+j / z*z+j % z=o+j:=by omega
  rw [this];exact addr_add _ _ _
 rw [e2];exact h3
theorem run_append_in {ts e:TypeId} {z by_:Nat} [k:ElT ts e z by_] {g at_ m cap c:Nat} {a2:Addr} {vs:List (List Value)} {W W':World} (hr:RdS z (some a2) m c vs W) (hz:∀ y∈vs,y.length=z) (hroom:at_+m<=cap)
  (hst:(storeCells ⟨g,at_*z,none⟩ vs.flatten).run Tryz.prog W=.ok () W') (ty:TypeId) :
  (Builtin.append_ #[ts,ts] ty #[.slice (some ⟨g,0,none⟩) at_ cap,.slice (some a2) m c]).run Tryz.prog W=.ok (.slice (some ⟨g,0,none⟩) (at_+m) cap) W':=by
 obtain ⟨i,zr,hi,hz0,hz1,hz2,hz3⟩:=ElT.el (ts:=ts) (e:=e) (z:=z) (by_:=by_)
 have ksl:=ElT.sl (ts:=ts) (e:=e) (z:=z) (by_:=by_)
 have kpos:=ElT.pos (ts:=ts) (e:=e) (z:=z) (by_:=by_)
 subst hz1
 have hf:=run_firstCells_some (P:=Tryz.prog) W i.size m a2 m c vs.flatten (by rw [flat_len hz,hr.len]) (rd_cells kpos hr hz)
 simp [Builtin.append_,run_underlying ksl,sizeOf,typeInfo,hi,Builtin.lenOf,hroom,hf,Addr.add_lit,hst]
theorem slP_appN {ts e:TypeId} {z by_:Nat} [k:ElT ts e z by_] {h:Hl} {ad:Option Addr} {n cap m c:Nat} {a2:Addr} {L ys:List (List Value)} (p:SlP e z ad n cap L h) (W:World) [hw:Has W h] (hr:RdS z (some a2) m c ys W) (hz:∀ y∈ys,y.length=z) (h1:∀ y∈ys,∀ u∈y,u.oneCell'=true) (hn:n+m<=1000000000) (hb:by_<=1000) :
  ∃ ad' cap' W',(∀ ty,(Builtin.append_ #[ts,ts] ty #[.slice ad n cap,.slice (some a2) m c]).run Tryz.prog W=.ok (.slice ad' (n+m) cap') W')/\Turns W h (SlP e z ad' (n+m) cap' (L++ys)) W':=by
 obtain ⟨i,zr,hi,hz0,hz1,hz2,hz3⟩:=ElT.el (ts:=ts) (e:=e) (z:=z) (by_:=by_)
 have ksl:=ElT.sl (ts:=ts) (e:=e) (z:=z) (by_:=by_)
 have kpos:=ElT.pos (ts:=ts) (e:=e) (z:=z) (by_:=by_)
 have hown:=p.own W
 obtain ⟨p1,p2,p3⟩:=p
 obtain ⟨v',W',hrun,hown',hgr,hnil,hloc⟩:=run_append_own_at (P:=Tryz.prog) W 0 ts ts e i zr z by_ ksl hi hz0 hz1 hz2 hz3 kpos _ n _ hown a2 m c ys.flatten (by rw [flat_len hz,hr.len])
  (rd_cells kpos hr hz) (λ u hu=>by obtain ⟨y,hy,hu⟩:=List.mem_flatten.1 hu;exact h1 y hy u hu) (by unfold maxLen;omega) (by have:=Nat.mul_le_mul hn hb;omega) (Nat.zero_le _)
 have hz':∀ x∈L++ys,x.length=z:=λ x hx=>by
  rcases List.mem_append.1 hx with hx | hx
  ·exact p2 x hx
  ·exact hz x hx
 have hl':(L++ys).length=n+m:=by rw [List.length_append,p1,hr.len]
 rcases hown'.2 with ⟨rfl,h0⟩ | ⟨b',c',cur',rfl,_,hb',hle',hmx',hs',ht'⟩
 ·have e1:L++ys=[]:=List.eq_nil_of_length_eq_zero (by omega)
  refine ⟨none,0,W',λ ty=>by rw [h0];exact hrun,⟨hgr.os,hgr.tape,hgr.output,hgr.size,λ m hm e1=>hgr.block m hm λ e2=>?_⟩,λ _=>none,⟨λ k o e=>by cases e⟩,λ m hm e1=>rfl,hl',hz',.inl ⟨rfl,h0,rfl⟩⟩
  rcases p3 with ⟨rfl,rfl,rfl⟩ | ⟨g,rfl,h2,cur,r1,_⟩
  ·cases e2
  ·injection e2 with e2;rw [e2,r1] at e1;cases e1
 have hloc:b'=W.heap.size\/∃ g,ad=some ⟨g,0,none⟩/\b'=g/\h g≠none:=by
  rcases hloc with e1 | e1
  ·right
   rcases p3 with ⟨rfl,rfl,rfl⟩ | ⟨g,rfl,h2,cur,r1,_⟩
   ·cases e1
   ·exact ⟨g,rfl,(by simpa [Value.ownBlock] using e1),by rw [r1];simp⟩
  ·left;injection e1
 refine ⟨some ⟨b',0,none⟩,c',W',λ ty=>hrun,⟨hgr.os,hgr.tape,hgr.output,hgr.size,λ m hm e1=>hgr.block m hm λ e2=>?_⟩,λ m=>if m=b' then some (.cells cur' e) else none,⟨λ m o e1=>?_⟩,λ m hm e1=>?_,hl',hz',.inr ⟨b',rfl,hmx',cur',if_pos rfl,hs',?_,hz',by omega⟩⟩
 ·rcases p3 with ⟨rfl,rfl,rfl⟩ | ⟨g,rfl,h2,cur,r1,_⟩
  ·cases e2
  ·injection e2 with e2;rw [e2,r1] at e1;cases e1
 ·by_cases hm:m=b'
  ·subst hm;rw [if_pos rfl] at e1;cases e1;exact hb'
  ·rw [if_neg hm] at e1;cases e1
 ·refine if_neg ?_
  rintro rfl
  rcases hloc with h2 | ⟨g,_,rfl,h2⟩
  ·omega
  ·exact h2 e1
 ·rw [hl',ht'];simp
theorem RwP.cut {t:TypeId} {z g cap:Nat} {L L':List (List Value)} {h:Hl} (r:RwP t z g cap L h) (k:Nat) (hk:k<=L.length) (e:L.take k=L'):RwP t z g cap L' h:=by
 obtain ⟨cur,r1,r2,r3,r4,r5⟩:=r
 have hl:L'.length=k:=by rw [<-e,List.length_take];omega
 have hz':∀ x∈L',x.length=z:=λ x hx=>r4 x (by rw [<-e] at hx;exact List.mem_of_mem_take hx)
 refine ⟨cur,r1,r2,?_,hz',by omega⟩
 have e2:L.flatten=L'.flatten++(L.drop k).flatten:=by rw [<-e,<- List.flatten_append,List.take_append_drop]
 have e3:cur.toList.take (L'.length*z)=(cur.toList.take (L.length*z)).take (L'.length*z):=by
  rw [List.take_take,Nat.min_eq_left]
  exact Nat.mul_le_mul_right _ (by omega)
 rw [e3,r3,e2,<- flat_len hz']
 exact List.take_left
theorem sdel_tq (ad:Option Addr) (n cap i:Nat) (L:List (List Value)) (hn:n<=4) (hi:i < n) (h1:∀ y∈L,∀ u∈y,u.oneCell'=true) :
  Tq 106 #[.slice ad n cap,.int .i64 i,.int .i64 ((i:Int)+1)] (SlP 125 15 ad n cap L) λ v q=>v=.slice ad (n - 1) cap/\q=SlP 125 15 ad (n - 1) cap (L.eraseIdx i):=by
 intro W h hw hp
 obtain ⟨p1,p2,p3⟩:=hp
 rcases p3 with ⟨rfl,rfl,rfl⟩ | ⟨g,rfl,hmx,r⟩
 ·omega
 have hcap:n<=cap:=by obtain ⟨cur,r1,r2,r3,r4,r5⟩:=r;omega
 have R:=r.rd (c:=cap) p1 W
 have hne:((i:Int) == (i:Int)+1)=false:=by simp;omega
 have hi4:i<=4:=by omega
 obtain ⟨m,hm⟩:∃ m,m=n - (i+1):=⟨_,rfl⟩
 have hv1:∀ y∈L.drop (i+1),y.length=15:=λ y hy=>p2 y (List.mem_of_mem_drop hy)
 have hv2:∀ y∈L.drop (i+1),∀ u∈y,u.oneCell'=true:=λ y hy=>h1 y (List.mem_of_mem_drop hy)
 have hvl:(L.drop (i+1)).length=m:=by rw [List.length_drop];omega
 have AP:∀ (w:World) [Has w h],∃ W',(∀ (c:Nat) (ty:TypeId),(Builtin.append_ #[73,73] ty #[.slice (some ⟨g,0,none⟩) i cap,.slice (restA (some ⟨g,0,none⟩) (i+1) cap 15) m c]).run Tryz.prog w=.ok (.slice (some ⟨g,0,none⟩) (n - 1) cap) W')/\Turns w h (RwP 125 15 g cap (L.take i++L.drop (i+1)++L.drop (i+m))) W':=λ w _=>by
  obtain ⟨X,hs,T⟩:=r.sto (vs:=L.drop (i+1)) (i:=i) (by omega) hv1 hv2 w
  rw [hvl] at T
  refine ⟨_,λ c ty=>?_,T⟩
  have R':=(r.rd (c:=cap) p1 w).rest (i+1) c hcap
  have e:n - 1=i+m:=by omega
  rw [e]
  rw [<-hm] at R'
  obtain ⟨a2,ha⟩:∃ a2,restA (some (⟨g,0,none⟩:Addr)) (i+1) cap 15=some a2:=by unfold restA;split <;> exact ⟨_,rfl⟩
  rw [ha] at R' ⊢
  exact run_append_in (ts:=73) R' hv1 (by omega) hs ty
 have CL:∀ (w:World) (h:Hl) [Has w h] (L2:List (List Value)),L2.length=n->RwP 125 15 g cap L2 h->∃ W',(∀ (c:Nat) (ty:TypeId),(Builtin.clear_ #[73] ty #[.slice (some ⟨g,(n - 1)*15,none⟩) 1 c]).run Tryz.prog w=.ok (.tuple #[]) W')/\Turns w h (SlP 125 15 (some ⟨g,0,none⟩) (n - 1) cap (L2.take (n - 1))) W':=λ w h _ L2 hl r2=>by
  have s2:star [RwP 125 15 g cap L2] h:=⟨h,λ _=>none,r2,trivial,λ _ _ e=>e,(λ _ _ e=>by cases e),λ _=>.inr rfl⟩
  obtain ⟨W',hr,T⟩:=row_clear (ts:=73) (c:=0) s2 (k:=0) rfl (i:=n - 1) (by omega) (.agg (Sn.cs ⟨0,0,Nd.none⟩).toArray) Tryz.underlying73 (λ _=>by kernel_rfl) rfl (by omega) (by simp [Value.cells,Value.oneCell',Sn.cs]) w
  refine ⟨W',λ c ty=>?_,T.mono λ h' s'=>?_⟩
  ·have:=hr ty
   rw [hl,show n - (n - 1)=1 by omega] at this
   rw [<-this]
   rfl
  ·obtain ⟨h2,r3,sb⟩:=s'.get (i:=0) rfl
   have hl3:(L2.take (n - 1)).length=n - 1:=by rw [List.length_take];omega
   have r4:=r3.cut (L':=L2.take (n - 1)) (n - 1) (by simp;omega) (by rw [List.take_append_of_le_length (by omega),List.take_of_length_le (by omega)])
   obtain ⟨cur,q1,q2,q3,q4,q5⟩:=r4
   exact ⟨hl3,q4,.inr ⟨g,rfl,hmx,cur,sb _ _ q1,q2,q3,q4,q5⟩⟩
 have hfin:(L.take i++L.drop (i+1)++L.drop (i+m)).take (n - 1)=L.eraseIdx i:=by
  rw [List.eraseIdx_eq_take_drop_succ,List.take_left']
  rw [List.length_append,List.length_take,hvl];omega
 have hl2:(L.take i++L.drop (i+1)++L.drop (i+m)).length=n:=by
  rw [List.length_append,List.length_append,List.length_take,hvl,List.length_drop];omega
 by_cases hc:cap=i+1
 ·have ha:restA (some (⟨g,0,none⟩:Addr)) (i+1) cap 15=some ⟨g,0,none⟩:=if_pos hc
  simp only [ha] at AP
  obtain rfl:n=i+1:=by omega
  obtain rfl:cap=i+1:=hc
  obtain rfl:m=0:=by omega
  clear hv1 hv2 hvl hm R
  go_enter Tryz.func106,Tryz.ntmps106
  go_wp2_with fail
  (first | (with_reducible refine pl2 (.q [0,1,2,3,4,5] (.x [6] (.q [7] .d))) ?_) | refine pl1 (.q [0,1,2,3,4,5] (.x [6] (.q [7] .d))) ?_);simp only [Plan.run,pick,gZ,gS,gA,gN]
  (repeat go_big_quiet_step (exact qZ));refine nZ ?_
  rintro w1 hw1
  haveI:Has w1 h:=by obtain ⟨g,rfl⟩:=hw1;infer_instance
  have tn:Tn W h w1 h:=by obtain ⟨g,rfl⟩:=hw1;infer_instance
  clear hw1 AP
  go_wp2_with fail
  dsimp only [Nx]
  (try go_frame)
  (repeat go_big_quiet_step (exact qZ));refine nZ ?_
  rintro _ ⟨g3,rfl⟩
  have T3:Turns w1 h (RwP 125 15 g (i+1) L) (gr w1 g3):=Turns.gr (Turns.same ii r) g3
  obtain ⟨m3,h3,i3,x3,r3⟩:=T3
  obtain ⟨W4,hr4,T4⟩:=CL (gr w1 g3) h3 L p1 r3
  have hfin2:L.take (i+1 - 1)=L.eraseIdx i:=by rw [<-hfin,List.take_left' (by simp;omega)];simp [List.drop_eq_nil_of_le (show L.length<=i+1 by omega)]
  rw [hfin2] at T4
  have TF:=Turns.after tn.m tn.x (Turns.after m3 x3 T4)
  clear T4 m3 i3 x3 r3 tn CL hfin hfin2 hl2
  simp only [Nat.add_sub_cancel] at hr4 TF
  have hn1:¬ i+1=i:=by omega
  have hn2:i+1 - i=1:=by omega
  go_wp2_with fail
  go_ret
  exact ⟨_,_,rfl,⟨by rw [Nat.add_sub_cancel];rfl,by rw [Nat.add_sub_cancel]⟩,TF⟩
 ·have ha:restA (some (⟨g,0,none⟩:Addr)) (i+1) cap 15=some ⟨g,(i+1)*15,none⟩:=by unfold restA;rw [if_neg hc];simp [Addr.add]
  simp only [ha] at AP
  go_enter Tryz.func106,Tryz.ntmps106
  go_wp2_with fail
  (first | (with_reducible refine pl2 (.q [0,1,2,3,4,5] (.x [6] (.q [7] .d))) ?_) | refine pl1 (.q [0,1,2,3,4,5] (.x [6] (.q [7] .d))) ?_);simp only [Plan.run,pick,gZ,gS,gA,gN]
  (repeat go_big_quiet_step (exact qZ));refine nZ ?_
  rintro w1 hw1
  haveI:Has w1 h:=by obtain ⟨g,rfl⟩:=hw1;infer_instance
  have tn:Tn W h w1 h:=by obtain ⟨g,rfl⟩:=hw1;infer_instance
  obtain ⟨W2,hr,T⟩:=AP w1
  clear hw1 AP
  rw [hm] at hr
  go_wp2_with (at_builtin;(refine wpList_append_run rfl _ _ _ _ rfl _ _ rfl rfl (hr _ _) ?_))
  dsimp only [Nx]
  (try go_frame)
  (repeat go_big_quiet_step (exact qZ));refine nZ ?_
  rintro g3
  have T3:=T.gr g3
  clear hr T
  obtain ⟨m3,h3,i3,x3,r3⟩:=T3
  obtain ⟨W4,hr4,T4⟩:=CL (gr W2 g3) h3 _ hl2 r3
  rw [hfin] at T4
  have TF:=Turns.after tn.m tn.x (Turns.after m3 x3 T4)
  clear T4 m3 i3 x3 r3 tn CL
  have hn1:¬ cap=n - 1:=by omega
  have hn2:n - (n - 1)=1:=by omega
  have hn3:((n - 1:Nat):Int)<=n:=by omega
  go_wp2_with fail
  go_ret
  exact ⟨_,_,rfl,⟨rfl,rfl⟩,TF⟩
section
variable {V:VD} {pb txg:Nat} {root live:Nd} {l:List Sn} {K:KS} {C:Nat}
theorem ofo1_tq (sn:SnD K txg l) (id:Int) (b1 b2:Nat) (fa:FuncId) (qa:goFn Tryz.prog fa=true) (G:Nat->Nd->List Sn->Prop)
  (A:∀ (wk i st n:Nat) (x:Sn) (sa:Option Addr) (scap:Nat) (sl:Option Addr) (scl:Nat),l[i]?=some x->x.id=id->Tq fa #[pV wk,.int .i64 i] (star [BlkP wk (wkC st live (.slice sa l.length scap) (.slice sl n scl)) 188,SlP 125 15 sa l.length scap (snC l)]) λ _ q=>∃ sa2 scap2 live' l',G i live' l'/\q=star [BlkP wk (wkC st live' (.slice sa2 l'.length scap2) (.slice sl n scl)) 188,SlP 125 15 sa2 l'.length scap2 (snC l')])
  (hG:∀ i x live' l',l[i]?=some x->G i live' l'->(∃ g,Ob K live' g)/\SnD K txg l') (wk:Nat) :
  Tq 168 (#[pV wk]++#[pV b1,pV b2]) (star [WkP V pb txg root live l K wk true live l K C,star [BlkP b1 #[.int .i64 id] 3,BlkP b2 #[.func (.func fa) #[] #[]] 201]])
   (ActR V pb txg root live l K wk C (star [BlkP b1 #[.int .i64 id] 3,BlkP b2 #[.func (.func fa) #[] #[]] 201]) λ live' l' K'=>∃ i x,l[i]?=some x/\x.id=id/\G i live' l'/\K'=K):=by
 refine Tq.of λ W h B0=>?_
 have B1:=Bt.oS (B0.flat) [1,0]
 have B2:=Bt.oS (B1.flat) [2,0,1]
 obtain ⟨sa,scap,ra,rcap,bb,wb,sb,ms,es,st0,st,mt,sa',scap',ra',rcap',⟨ss,us,hC9,hf⟩,B3⟩:=B2.wk
 clear hf B0 B1 B2
 have B4:=Bt.oS (B3) [0,1,2,3,6,7,4,5,8,9]
 have B:=B4.app [_,_,_,_,_,_]
 clear B3 B4
 obtain ⟨R0,hR0⟩:∃ R0,star [BlkP pb (poC V txg root live (.slice sa l.length scap) (.slice ra V.ds.length rcap) (pV bb) (pV wk) (pV wb)) 82,SlP 125 15 sa l.length scap (snC l),SlP 92 2 ra V.ds.length rcap (zrC V.ds.length),BookC wb sb V.secs ms es,SlP 92 2 ra' V.ds.length rcap' (zrC V.ds.length),StP V st bb sb (txg+1) 40 mt K C]=R0:=⟨_,rfl⟩
 rw [hR0] at B
 have HR0:=Lib.hid hR0
 clear hR0
 have FIN:∀ (w9:World) (live':Nd) (l':List Sn) (sa2:Option Addr) (scap2:Nat),Bt W h [R0,BlkP wk (wkC st0 live' (.slice sa2 l'.length scap2) (.slice ra' V.ds.length rcap')) 188,SlP 125 15 sa2 l'.length scap2 (snC l'),BlkP b1 #[.int .i64 id] 3,BlkP b2 #[.func (.func fa) #[] #[]] 201] w9 ->
   Turns W h (star [WkP V pb txg root live l K wk false live' l' K C,star [BlkP b1 #[.int .i64 id] 3,BlkP b2 #[.func (.func fa) #[] #[]] 201]]) w9:=λ w9 live' l' sa2 scap2 B=>by
  rw [<-HR0.out] at B
  have B3:=B.flat
  have B4:=Bt.oS (B3) [0,1,2,3,6,7,4,5,8,9]
  have B7:=Bt.wk_shut (wk:=wk) (fresh:=false) (st0:=st0) (st:=st) (mt:=mt) (es:=es) (ra':=ra') (rcap':=rcap') (sa':=sa2) (scap':=scap2) (sa:=sa) (scap:=scap) (ra:=ra) (rcap:=rcap) (bb:=bb) (wb:=wb) (ms:=ms) (sb:=sb) ⟨ss,us,hC9,λ h=>by cases h⟩ B4
  have B8:=Bt.oS (B7) [1,2,0]
  exact (((B8.app [_,_]).perm (List.Perm.swap ..)).app [_,_]).fin_at 0 rfl
 have hl:=sn.len
 have F:=λ w (_:RdS 15 sa' l.length scap' (snC l) w)=>find_fn live sa' scap' l (.slice ra' V.ds.length rcap') w id hl
 have HC:=λ args w=>run_callGo (P:=Tryz.prog) qa args w
 haveI:=(rd_sl B (i:=2) rfl).1
 clear us ss hC9
 show Calls Tryz.prog 168 #[pV wk,pV b1,pV b2] W _
 cases hfa:l.any (hasId id)
 ·rw [hfa] at F
  have F1:∀ w,[RdS 15 sa' l.length scap' (snC l) w]->Fn 103 #[.agg (mC live (.slice sa' l.length scap') (.slice ra' V.ds.length rcap')),.int .i64 id] w (.tuple #[.int .i64 (imax (ixI (hasId id) l) 0),.bool false]):=λ w i=>F w i
  clear hfa
  go_enter Tryz.func168,Tryz.ntmps168
  go_wp2_with fail
  (first | (with_reducible refine pl2 (.q [0,1,2,3,4] (.x [5] (.q [6,7,8,9,10] .d))) ?_) | refine pl1 (.q [0,1,2,3,4] (.x [5] (.q [6,7,8,9,10] .d))) ?_);simp only [Plan.run,pick,gZ,gS,gA,gN]
  (repeat (first | ((with_reducible apply wpQuiet_load);(·exact rfl);(·rintro _ ⟨gq,rfl⟩;exact ii);go_frame) | go_big_quiet_step (exact qZ)));refine nZ ?_
  rintro w1 hw1
  have B1:Bt W h _ w1:=btCls hw1
  haveI:RdS 15 sa' l.length scap' (snC l) w1:=(rd_sl B1 (i:=2) rfl).1
  clear hw1 B
  go_wp2_with (with_reducible refine Fn.go λ g=>?_)
  dsimp only [Nx]
  (repeat go_big_quiet_step (exact qZ));refine nZ ?_
  refine btI ?_
  intro w2 B2
  clear B1
  go_wp2_with fail
  go_ret
  (first | apply fin_a | apply fin_b)
  exact ⟨.inl ⟨_,live,l,K,by decide,rfl,KS.le.refl K,rfl⟩,FIN _ live l sa' scap' B2⟩
 ·obtain ⟨i,x,hi,hx,hid⟩:∃ (i:Nat) (x:Sn),imax (ixI (hasId id) l) 0=i/\l[i]?=some x/\x.id=id:=by
   refine ⟨l.findIdx (hasId id),_,?_,List.getElem?_eq_getElem (List.findIdx_lt_length_of_exists (by simpa using hfa)),?_⟩
   ·unfold ixI imax
    rw [hfa]
    simp
    try (intro h;omega)
   ·have:=List.findIdx_getElem (xs:=l) (p:=hasId id) (w:=List.findIdx_lt_length_of_exists (by simpa using hfa))
    simpa [hasId] using this
  rw [hfa,hi] at F
  have F1:∀ w,[RdS 15 sa' l.length scap' (snC l) w]->Fn 103 #[.agg (mC live (.slice sa' l.length scap') (.slice ra' V.ds.length rcap')),.int .i64 id] w (.tuple #[.int .i64 i,.bool true]):=λ w i=>F w i
  have AX:=A wk i st0 V.ds.length x sa' scap' ra' rcap' hx hid
  have Hx:=Lib.hid hx
  have Hid':=Lib.hid hid
  clear hfa hi hx hid
  go_enter Tryz.func168,Tryz.ntmps168
  go_wp2_with fail
  (first | (with_reducible refine pl2 (.q [0,1,2,3,4] (.x [5] (.q [6,7,8,9,10] .d))) ?_) | refine pl1 (.q [0,1,2,3,4] (.x [5] (.q [6,7,8,9,10] .d))) ?_);simp only [Plan.run,pick,gZ,gS,gA,gN]
  (repeat (first | ((with_reducible apply wpQuiet_load);(·exact rfl);(·rintro _ ⟨gq,rfl⟩;exact ii);go_frame) | go_big_quiet_step (exact qZ)));refine nZ ?_
  rintro w1 hw1
  have B1:Bt W h _ w1:=btCls hw1
  haveI:RdS 15 sa' l.length scap' (snC l) w1:=(rd_sl B1 (i:=2) rfl).1
  clear hw1 B
  go_wp2_with (with_reducible refine Fn.go λ g=>?_)
  dsimp only [Nx]
  (repeat go_big_quiet_step (exact qZ));refine nZ ?_
  refine btI ?_
  intro w2 B2
  clear B1
  go_wp2_with fail
  have B3:=Bt.oS (B2) [1,2,0,3,4]
  have B4:=B3.app [_,_]
  clear B2 B3
  refine (Bt.call AX).mono ?_
  rintro e w3 ⟨v,q,rfl,⟨sa2,scap2,live',l',hg,rfl⟩,B5⟩
  clear B4 AX
  dsimp only
  have HG:=Lib.hid hg
  clear hg
  go_wp2_with fail
  go_ret
  (first | apply fin_a | apply fin_b)
  have B6:=Bt.oS (B5.flat) [2,0,1,3,4]
  exact ⟨.inr ⟨live',l',K,rfl,KS.le.refl K,hG i x live' l' Hx.out HG.out,⟨i,x,Hx.out,Hid'.out,HG.out,rfl⟩,rfl⟩,FIN _ live' l' sa2 scap2 B6⟩
end
theorem SnD.le {K:KS} {txg:Nat} {l:List Sn} (d:SnD K txg l):∀ (m j:Nat) (x y:Sn),l[j]?=some x->l[j+m+1]?=some y->x.txg<=y.txg
 | 0,j,x,y,h1,h2=>d.up j x y h1 h2
 | m+1,j,x,y,h1,h2=>by
  obtain ⟨z,hz⟩:∃ z,l[j+m+1]?=some z:=⟨_,List.getElem?_eq_getElem (by have:=(List.getElem?_eq_some_iff.1 h2).1;omega)⟩
  have:=d.le m j x z h1 hz
  have:=d.up (j+m+1) z y hz h2
  omega
theorem map_erase {α β:Type _} (f:α->β) (l:List α) (i:Nat):(l.map f).eraseIdx i=(l.eraseIdx i).map f:=List.ext_getElem? λ j=>by
 simp only [List.getElem?_eraseIdx,List.getElem?_map]
 split <;> rfl
theorem erase_get {α:Type _} {l:List α} {i k:Nat} {x:α} (h:(l.eraseIdx i)[k]?=some x):l[if k < i then k else k+1]?=some x:=by
 rw [List.getElem?_eraseIdx] at h
 split at h <;> rename_i hk
 ·rw [if_pos hk];exact h
 ·rw [if_neg hk];exact h
theorem SnD.erase {K:KS} {txg:Nat} {l:List Sn} (d:SnD K txg l) (i:Nat):SnD K txg (l.eraseIdx i):=by
 have hm:∀ x∈l.eraseIdx i,x∈l:=λ x hx=>List.mem_of_mem_eraseIdx hx
 refine ⟨?_,λ x h=>d.id x (hm x h),λ x h=>d.txg x (hm x h),λ x h=>d.dir x (hm x h),λ k x y h1 h2=>?_,λ j k x y h1 h2 hjk=>?_⟩
 ·have:=List.length_eraseIdx_le l i
  have:=d.len
  omega
 ·have a:=erase_get h1
  have b:=erase_get h2
  rcases Nat.lt_or_ge k i with hk | hk
  ·rw [if_pos hk] at a
   by_cases h:k+1 < i
   ·rw [if_pos h] at b;exact d.up k x y a b
   ·rw [if_neg h] at b;exact d.le 1 k x y a b
  ·rw [if_neg (by omega)] at a b
   exact d.up (k+1) x y a b
 ·have a:=erase_get h1
  have b:=erase_get h2
  refine d.ne _ _ x y a b ?_
  split <;> split <;> omega
section
variable {V:VD} {pb txg:Nat} {root:Nd} {C:Nat} {K0:KS} {wd:Wd}
theorem ofound_tq (ht:txg+1<=4294967295) (id:Int) (fa:FuncId) (qa:goFn Tryz.prog fa=true) (G:Nd->List Sn->Nat->Nd->List Sn->Prop) (P:Wd->Prop)
  (A:∀ (live:Nd) (l:List Sn),l.length<=4->∀ (wk i st n:Nat) (x:Sn) (sa:Option Addr) (scap:Nat) (sl:Option Addr) (scl:Nat),l[i]?=some x->x.id=id->Tq fa #[pV wk,.int .i64 i] (star [BlkP wk (wkC st live (.slice sa l.length scap) (.slice sl n scl)) 188,SlP 125 15 sa l.length scap (snC l)]) λ _ q=>∃ sa2 scap2 live' l',G live l i live' l'/\q=star [BlkP wk (wkC st live' (.slice sa2 l'.length scap2) (.slice sl n scl)) 188,SlP 125 15 sa2 l'.length scap2 (snC l')])
  (hG:∀ K live l,WOk K txg live l wd->∀ i x live' l',l[i]?=some x->x.id=id->G live l i live' l'->∃ wd',P wd'/\WOk K txg live' l' wd')
  (hS:∀ K live l,WOk K txg live l wd->∀ i x live' l',l[i]?=some x->G live l i live' l'->(∃ g,Ob K live' g)/\SnD K txg l') :
  Tq 104 #[pV pb,.int .i64 id,.func (.func fa) #[] #[]] (PoS V pb txg root C K0 wd) (OpR V pb txg root C K0 wd P):=by
 refine Tq.of λ W h B0=>?_
 obtain ⟨K,live,l,⟨hK0,ok⟩,B⟩:=B0.pos
 clear B0
 have CH:=λ b1 b2=>changed_tq (V:=V) (pb:=pb) (root:=root) ht ok.sn.len 168 (by kernel_rfl) #[pV b1,pV b2] (ofo1_tq (C:=C) ok.sn id b1 b2 fa qa (G live l) (A live l ok.sn.len) (hS K live l ok))
 have Ok:=Lib.hid ok
 clear ok A hS
 go_enter Tryz.func104,Tryz.ntmps104
 go_wp2_with fail
 refine calls_bt (W:=W) (h:=h) (l:=[_,_,PoP V pb txg root live l K C]) ii ?_
 rintro w1 B1
 have B2:=Bt.oS (B1) [1,0,2]
 have B3:=B2.app [_,_]
 haveI B4:=(B3.perm (List.Perm.swap ..)).app [_,_]
 clear B B1 B2 B3
 refine (Bt.call (CH _ _)).mono ?_
 rintro e w2 ⟨v,q,rfl,hR,B5⟩
 clear B4 CH
 dsimp only
 rcases hR with ⟨e,he,rfl,rfl⟩ | ⟨live',l',K',rfl,hK,⟨i,x,hx,hi,hg,rfl⟩,rfl⟩
 ·go_wp2_with fail
  go_ret
  (first | apply fin_a | apply fin_b)
  exact ⟨.inl ⟨e,he,rfl,rfl⟩,(B5.flat.head λ h q=>⟨K,live,l,⟨hK0,Ok.out⟩,q⟩).fin_at 0 rfl⟩
 ·have Hx:=Lib.hid hx
  have Hi:=Lib.hid hi
  have HG:=Lib.hid hg
  clear hx hi hg
  go_wp2_with fail
  go_ret
  obtain ⟨wd',hp,wo⟩:=hG K' live l Ok.out i x live' l' Hx.out Hi.out HG.out
  (first | apply fin_a | apply fin_b)
  exact ⟨.inr ⟨wd',rfl,hp,rfl⟩,(B5.flat.head (q:=PoS V pb txg root C K0 wd') λ h q=>⟨K',live',l',⟨hK0,wo⟩,q⟩).fin_at 0 rfl⟩
theorem WOk.at_ {K:KS} {live:Nd} {l:List Sn} (ok:WOk K txg live l wd) {i:Nat} {x:Sn} (hx:l[i]?=some x):∃ T,wd.snaps[i]?=some (x.id,T)/\DrT K x.dir T:=by
 have h:=congrArg (λ z:List Int=>z[i]?) ok.ids
 simp only [List.getElem?_map,hx,Option.map_some] at h
 cases hy:wd.snaps[i]? with
 | none=>rw [hy] at h;cases h
 | some y =>
  rw [hy] at h
  simp at h
  exact ⟨y.2,by rw [h],ok.dirs i x y hx hy⟩
def DeO (id:Int) (wd wd':Wd):Prop:=∃ (i:Nat) (T:Objs),wd.snaps[i]?=some (id,T)/\wd'={ wd with snaps:=wd.snaps.eraseIdx i }
def RoO (id:Int) (wd wd':Wd):Prop:=∃ (i:Nat) (T:Objs),wd.snaps[i]?=some (id,T)/\wd'={ wd with live:=T }
theorem ode1_tq (live:Nd) (l:List Sn) (hl:l.length<=4) (wk i st n:Nat) (x:Sn) (sa:Option Addr) (scap:Nat) (sl:Option Addr) (scl:Nat) (hx:l[i]?=some x) :
  Tq 105 #[pV wk,.int .i64 i] (star [BlkP wk (wkC st live (.slice sa l.length scap) (.slice sl n scl)) 188,SlP 125 15 sa l.length scap (snC l)]) λ _ q=>∃ sa2 scap2 live' l',(live'=live/\l'=l.eraseIdx i)/\q=star [BlkP wk (wkC st live' (.slice sa2 l'.length scap2) (.slice sl n scl)) 188,SlP 125 15 sa2 l'.length scap2 (snC l')]:=by
 have hil:=(List.getElem?_eq_some_iff.1 hx).1
 have D:=sdel_tq sa l.length scap i (snC l) hl hil (snC_one l)
 have e1:(l.eraseIdx i).length=l.length - 1:=by rw [List.length_eraseIdx];simp [hil]
 have e2:snC (l.eraseIdx i)=(snC l).eraseIdx i:=by simp only [snC,map_erase]
 rw [<-e2,<- e1] at D
 clear hx e1 e2
 refine Tq.of λ W h B0=>?_
 have B:=B0.flat
 clear B0
 simp only [List.append_nil] at B
 go_enter Tryz.func105,Tryz.ntmps105
 go_wp2_with fail
 refine (Bt.call D).mono ?_
 rintro e w1 ⟨v,q,rfl,⟨rfl,rfl⟩,B1⟩
 clear B D
 dsimp only
 go_wp2_with fail
 go_end0
 have B2:Bt W h [BlkP wk (wkC st live (.slice sa (l.eraseIdx i).length scap) (.slice sl n scl)) 188,_] (w1.setCell ⟨wk,14,none⟩ (.slice sa (l.eraseIdx i).length scap)):=ii
 exact ⟨_,_,rfl,⟨sa,scap,live,_,⟨rfl,rfl⟩,rfl⟩,(B2.app [_,_]).fin_at 0 rfl⟩
set_option maxRecDepth 512 in
theorem odestroy_tq (ht:txg+1<=4294967295) (id:Int) :
  Tq 57 #[pV pb,.int .i64 id] (PoS V pb txg root C K0 wd) (OpR V pb txg root C K0 wd (DeO id wd)):=by
 have F:=ofound_tq (V:=V) (pb:=pb) (root:=root) (C:=C) (K0:=K0) (wd:=wd) ht id 105 (by kernel_rfl) (λ live l i live' l'=>live'=live/\l'=l.eraseIdx i) (DeO id wd) (λ live l hl wk i st n x sa scap sl scl hx _=>ode1_tq live l hl wk i st n x sa scap sl scl hx)
  (λ K live l ok i x live' l' hx hi ⟨h1,h2⟩=>by
   subst h1 h2
   obtain ⟨T,hT,_⟩:=ok.at_ hx
   rw [hi] at hT
   refine ⟨_,⟨i,T,hT,rfl⟩,ok.live,?_,λ k x y h1 h2=>?_,ok.sn.erase i⟩
   ·rw [<-map_erase,<- map_erase,ok.ids]
   ·exact ok.dirs _ x y (erase_get h1) (erase_get h2))
  (λ K live l ok i x live' l' hx ⟨h1,h2⟩=>by subst h1 h2;exact ⟨ok.live.ob,ok.sn.erase i⟩)
 refine Tq.of λ W h B=>?_
 go_enter Tryz.func57,Tryz.ntmps57
 go_wp2_with fail
 refine (Bt.call F).mono ?_
 rintro e w1 ⟨v,q,rfl,hR,B1⟩
 dsimp only
 go_wp2_with fail
 go_ret
 (first | apply fin_a | apply fin_b)
 exact ⟨hR,Bt.fin⟩
theorem oro1_tq (live:Nd) (l:List Sn) (hl:l.length<=4) (wk i st n:Nat) (x:Sn) (sa:Option Addr) (scap:Nat) (sl:Option Addr) (scl:Nat) (hx:l[i]?=some x) :
  Tq 107 #[pV wk,.int .i64 i] (star [BlkP wk (wkC st live (.slice sa l.length scap) (.slice sl n scl)) 188,SlP 125 15 sa l.length scap (snC l)]) λ _ q=>∃ sa2 scap2 live' l',(l[i]?=some x/\live'=x.dir/\l'=l)/\q=star [BlkP wk (wkC st live' (.slice sa2 l'.length scap2) (.slice sl n scl)) 188,SlP 125 15 sa2 l'.length scap2 (snC l')]:=by
 have hil:=(List.getElem?_eq_some_iff.1 hx).1
 refine Tq.of λ W h B0=>?_
 have B:=B0.flat
 clear B0
 simp only [List.append_nil] at B
 obtain ⟨b,o,rfl,hb,hc⟩:=(rd_sl B (i:=1) rfl).1.cells i x.cs (by simp [snC,hx])
 have Hx:=Lib.hid hx
 clear hx
 haveI:SubAt b (o+i*15+2) (ndL x.dir).toArray 13 W:=⟨rfl,hb,λ j v e=>by
  have:=hc (j+2) v (by simpa [Sn.cs] using e)
  rw [show o+i*15+2+j=o+i*15+(j+2) by omega];exact this⟩
 go_enter Tryz.func107,Tryz.ntmps107
 go_wp2_with (first | ((with_reducible apply wpList_load);(·exact rfl);(·exact ii)) | ((with_reducible apply wpList_store);(·exact rfl);(·exact rfl);(·exact ii)))
 go_end0
 refine ⟨_,_,rfl,⟨some ⟨b,o,none⟩,scap,x.dir,l,⟨Hx.out,rfl,rfl⟩,rfl⟩,turns_bt (W:=W) (h:=h) (l:=[BlkP wk (wkC st x.dir (.slice (some ⟨b,o,none⟩) l.length scap) (.slice sl n scl)) 188,SlP 125 15 (some ⟨b,o,none⟩) l.length scap (snC l)]) ii λ w9 B9=>(B9.app [_,_]).fin_at 0 rfl⟩
set_option maxRecDepth 512 in
theorem orollback_tq (ht:txg+1<=4294967295) (id:Int) :
  Tq 58 #[pV pb,.int .i64 id] (PoS V pb txg root C K0 wd) (OpR V pb txg root C K0 wd (RoO id wd)):=by
 have F:=ofound_tq (V:=V) (pb:=pb) (root:=root) (C:=C) (K0:=K0) (wd:=wd) ht id 107 (by kernel_rfl) (λ live l i live' l'=>∃ x,l[i]?=some x/\live'=x.dir/\l'=l) (RoO id wd) (λ live l hl wk i st n x sa scap sl scl hx _=>(oro1_tq live l hl wk i st n x sa scap sl scl hx).mono λ v q ⟨a,b,c,d,e,f⟩=>⟨q,⟨a,b,c,d,⟨x,e⟩,f⟩,λ _ h=>h⟩)
  (λ K live l ok i x live' l' hx hi ⟨x',h0,h1,h2⟩=>by
   subst h1 h2
   rw [hx] at h0
   cases h0
   obtain ⟨T,hT,dT⟩:=ok.at_ hx
   rw [hi] at hT
   exact ⟨_,⟨i,T,hT,rfl⟩,dT,ok.ids,ok.dirs,ok.sn⟩)
  (λ K live l ok i x live' l' hx ⟨x',h0,h1,h2⟩=>by subst h1 h2;exact ⟨ok.sn.dir x' (List.mem_of_getElem? h0),ok.sn⟩)
 refine Tq.of λ W h B=>?_
 go_enter Tryz.func58,Tryz.ntmps58
 go_wp2_with fail
 refine (Bt.call F).mono ?_
 rintro e w1 ⟨v,q,rfl,hR,B1⟩
 dsimp only
 go_wp2_with fail
 go_ret
 (first | apply fin_a | apply fin_b)
 exact ⟨hR,Bt.fin⟩
end
theorem results_tnt {fn:Func} {u p v:Tmp} (h:fn.results=#[.tmp u,.cell p 52,.tmp v]) (tmps:Array Value) (w:World) (b:Nat) (cs:Array Value) (hp:tmps.getD p undef=.pointer (some ⟨b,0,none⟩)) (hs:SubAt b 0 cs 13 w) :
  (results fn tmps).run Tryz.prog w=.ok (.tuple #[tmps.getD u undef,.agg cs,tmps.getD v undef]) w:=by
 have hp':tmps[p]?.getD undef=.pointer (some ⟨b,0,none⟩):=by simpa using hp
 unfold results
 rw [h]
 simp [hp',asAddr,run_loadVarSub (P:=Tryz.prog) w b 0 13 cs _ _ Tryz.underlying52 rfl (by kernel_rfl)]
theorem perm_ord {α:Type _} (l:List α) (is:List Nat) (e:is.isPerm (List.range l.length)=true):l.Perm (ordL l is):=by
 rw [ordL_eq]
 have h1:=(List.isPerm_iff.1 e).filterMap λ i=>l[i]?
 rw [range_get] at h1
 exact h1.symm
def LookR (live:Nd) (l:List Sn) (snap:Int) (wk:Nat) (v:Value):Prop:=((snap=-1/\v=.tuple #[pV wk,.agg live.cs,.int .i64 0])\/(snap≠-1/\∃ (i:Nat) (x:Sn),l[i]?=some x/\x.id=snap/\v=.tuple #[pV wk,.agg x.dir.cs,.int .i64 0])\/(snap≠-1/\l.any (hasId snap)=false/\v=.tuple #[.pointer none,.agg Nd.none.cs,.int .i64 7]))
section
variable {V:VD} {pb txg:Nat} {root live:Nd} {l:List Sn} {K:KS} {C:Nat}
theorem Bt.wk_po {W w:World} {h:Hl} {L:List SP} {wk:Nat} {fresh:Bool} {live':Nd} {l':List Sn} {K':KS} (hK:K.le K') (B:Bt W h (WkP V pb txg root live l K wk fresh live' l' K' C::L) w):Bt W h (PoP V pb txg root live l K C::L) w:=by
 have key:∀ {w:World} {h:Hl},Has w h->WkP V pb txg root live l K wk fresh live' l' K' C h->PoP V pb txg root live l K C h:=λ {w h} i s=>by
  obtain ⟨sa,scap,ra,rcap,bb,wb,sb,ms,es,st0,st,mt,sa',scap',ra',rcap',⟨ss,us,hC9,_⟩,s⟩:=s
  have s1:=s.perm (l':=[_,_,_,_,_,_,_,_]) (List.perm_append_comm (l₁:=[_,_,_,_,_,_,_]) (l₂:=[_]))
  obtain ⟨h0,⟨dn,N,F,ms',es',ok,sp⟩,b,c⟩:=s1.focus (i:=0) rfl
  have s2:=c (star (StL V st bb sb (txg+1) 40 mt dn C N F ms' es')) h0 h sp b λ hk h1 h2=>⟨h1,h2⟩
  have s3:=star.flat s2
  simp only [StL,List.cons_append,List.nil_append] at s3
  have s4:=s3.perm (l':=_) (perm_ord _ [5,6,7,8,2,3,0,1,4,9,10,11] (by kernel_rfl))
  simp only [ordL,List.getElem?_cons_zero,List.getElem?_cons_succ] at s4
  have s5:=star.app (l:=[_,_,_,_,_,_]) s4
  obtain ⟨h5,a5,b5⟩:=s5.get (i:=0) rfl
  exact ⟨sa,scap,ra,rcap,some ⟨bb,0,none⟩,some ⟨wk,0,none⟩,some ⟨wb,0,none⟩,wb,sb,N,F,ms,es,⟨⟨ss,⟨λ p t hp=>ok.kept.held p t (hK p t hp),us,λ p q t t' hp hq=>ok.kept.uni p q t t' (hK p t hp) (hK q t' hq)⟩,ok.bd⟩,hC9⟩,.inr ⟨wk,rfl,rfl⟩,star.sub a5 b5⟩
 obtain ⟨m,h1,i,x,s⟩:=B.t
 obtain ⟨ha,hb,a,b,c,d,e⟩:=s
 exact ⟨m,h1,i,x,ha,hb,key (i.sub c) a,b,c,d,e⟩
theorem looked_tq (ht:txg<=4294967294) (hl:l.length<=4) (snap:Int) :
  Tq 92 #[pV pb,.int .i64 snap] (PoP V pb txg root live l K C) λ v q=>∃ wk,LookR live l snap wk v/\q=WkP V pb txg root live l K wk true live l K C:=by
 have BG:=begin_tq (V:=V) (pb:=pb) (root:=root) (live:=live) (K:=K) (C:=C) (txg+1) rfl ht hl
 refine Tq.of λ W h B0=>?_
 by_cases hs:snap=-1
 ·subst hs
  go_enter Tryz.func92,Tryz.ntmps92
  go_wp2_with fail
  refine (Bt.call BG).mono ?_
  rintro e w1 ⟨v,q,rfl,⟨wk,rfl,rfl⟩,B1⟩
  clear B0 BG
  dsimp only
  obtain ⟨sa,scap,ra,rcap,bb,wb,sb,ms,es,st0,st,mt,sa',scap',ra',rcap',hf,B3⟩:=(B1.perm (List.Perm.swap ..)).wk
  have B4:=Bt.oS (B3) [4,5,8,0,1,2,3,6,7]
  clear B1 B3
  have FIN:∀ (w9:World) (cc:Array Value),Bt W h [BlkP wk (wkC st0 live (.slice sa' l.length scap') (.slice ra' V.ds.length rcap')) 188,SlP 125 15 sa' l.length scap' (snC l),BlkP W.heap.size cc 52,BlkP pb (poC V txg root live (.slice sa l.length scap) (.slice ra V.ds.length rcap) (pV bb) (pV wk) (pV wb)) 82,SlP 125 15 sa l.length scap (snC l),SlP 92 2 ra V.ds.length rcap (zrC V.ds.length),BookC wb sb V.secs ms es,SlP 92 2 ra' V.ds.length rcap' (zrC V.ds.length),StP V st bb sb (txg+1) 40 mt K C] w9->Turns W h (WkP V pb txg root live l K wk true live l K C) w9:=λ w9 cc B=>by
   have B5:=Bt.oS (B) [3,4,5,6,0,1,7,8,2]
   exact (Bt.wk_shut (wk:=wk) (fresh:=true) (st0:=st0) (st:=st) (mt:=mt) (es:=es) (ra':=ra') (rcap':=rcap') (sa':=sa') (scap':=scap') (sa:=sa) (scap:=scap) (ra:=ra) (rcap:=rcap) (bb:=bb) (wb:=wb) (ms:=ms) (sb:=sb) hf B5).fin_at 0 rfl
  go_wp2_with fail
  (first | (with_reducible refine pl2 (.q [0,1,2,3,4,5,6] (.x [7] (.q [8] .d))) ?_) | refine pl1 (.q [0,1,2,3,4,5,6] (.x [7] (.q [8] .d))) ?_);simp only [Plan.run,pick,gZ,gS,gA,gN]
  (repeat (first | ((with_reducible apply wpQuiet_load);(·exact rfl);(·rintro _ ⟨gq,rfl⟩;exact ii);go_frame) | go_big_quiet_step (exact qZ)));refine nZ ?_
  refine btI ?_
  intro w2 B5
  clear B4
  go_wp2_with ((with_reducible apply wpList_store);(·exact rfl);(·exact rfl);(·exact ii))
  dsimp only [Nx]
  (repeat go_big_quiet_step (exact qZ));refine nZ ?_
  refine btI ?_
  intro w3 B6
  clear B5
  go_wp2_with fail
  refine bodyPost_ret (results_tnt rfl _ _ _ _ rfl ii) rfl ?_
  exact ⟨_,_,rfl,⟨wk,.inl ⟨rfl,rfl⟩,rfl⟩,FIN _ _ B6⟩
 ·have hs1:(snap == -1)=false:=by simpa using hs
  cases hfa:l.any (hasId snap)
  ·have F:=λ live sa' scap' st w (_:RdS 15 sa' l.length scap' (snC l) w)=>find_fn live sa' scap' l st w snap hl
   rw [hfa] at F
   have Hfa:=Lib.hid hfa
   clear hfa
   go_enter Tryz.func92,Tryz.ntmps92
   go_wp2_with fail
   refine (Bt.call BG).mono ?_
   rintro e w1 ⟨v,q,rfl,⟨wk,rfl,rfl⟩,B1⟩
   clear B0 BG
   dsimp only
   obtain ⟨sa,scap,ra,rcap,bb,wb,sb,ms,es,st0,st,mt,sa',scap',ra',rcap',hf,B3⟩:=(B1.perm (List.Perm.swap ..)).wk
   have B4:=Bt.oS (B3) [4,5,8,0,1,2,3,6,7]
   clear B1 B3
   have FIN:∀ (w9:World) (cc:Array Value),Bt W h [BlkP wk (wkC st0 live (.slice sa' l.length scap') (.slice ra' V.ds.length rcap')) 188,SlP 125 15 sa' l.length scap' (snC l),BlkP W.heap.size cc 52,BlkP pb (poC V txg root live (.slice sa l.length scap) (.slice ra V.ds.length rcap) (pV bb) (pV wk) (pV wb)) 82,SlP 125 15 sa l.length scap (snC l),SlP 92 2 ra V.ds.length rcap (zrC V.ds.length),BookC wb sb V.secs ms es,SlP 92 2 ra' V.ds.length rcap' (zrC V.ds.length),StP V st bb sb (txg+1) 40 mt K C] w9->Turns W h (WkP V pb txg root live l K wk true live l K C) w9:=λ w9 cc B=>by
    have B5:=Bt.oS (B) [3,4,5,6,0,1,7,8,2]
    exact (Bt.wk_shut (wk:=wk) (fresh:=true) (st0:=st0) (st:=st) (mt:=mt) (es:=es) (ra':=ra') (rcap':=rcap') (sa':=sa') (scap':=scap') (sa:=sa) (scap:=scap) (ra:=ra) (rcap:=rcap) (bb:=bb) (wb:=wb) (ms:=ms) (sb:=sb) hf B5).fin_at 0 rfl
   have F1:∀ w,[RdS 15 sa' l.length scap' (snC l) w]->Fn 103 #[.agg (mC live (.slice sa' l.length scap') (.slice ra' V.ds.length rcap')),.int .i64 snap] w (.tuple #[.int .i64 (imax (ixI (hasId snap) l) 0),.bool false]):=λ w i=>F live sa' scap' _ w i
   haveI:=(rd_sl B4 (i:=1) rfl).1
   clear F
   go_wp2_with (first | (with_reducible refine Fn.go λ g=>?_) | ((with_reducible apply wpList_load);(·exact rfl);(·exact ii)) | ((with_reducible apply wpList_store);(·exact rfl);(·exact rfl);(·exact ii)))
   refine bodyPost_ret (results_tnt rfl _ _ _ _ rfl ii) rfl ?_
   exact ⟨_,_,rfl,⟨wk,.inr (.inr ⟨hs,Hfa.out,rfl⟩),rfl⟩,turns_bt (W:=W) (h:=h) (l:=[_,_,_,_,_,_,_,_,_]) ii λ w9 B9=>FIN w9 _ B9⟩
  ·obtain ⟨i,x,hi,hx,hid⟩:∃ (i:Nat) (x:Sn),imax (ixI (hasId snap) l) 0=i/\l[i]?=some x/\x.id=snap:=by
    refine ⟨l.findIdx (hasId snap),_,?_,List.getElem?_eq_getElem (List.findIdx_lt_length_of_exists (by simpa using hfa)),?_⟩
    ·unfold ixI imax
     rw [hfa]
     simp
     try (intro h;omega)
    ·have:=List.findIdx_getElem (xs:=l) (p:=hasId snap) (w:=List.findIdx_lt_length_of_exists (by simpa using hfa))
     simpa [hasId] using this
   have F:=λ live sa' scap' st w (_:RdS 15 sa' l.length scap' (snC l) w)=>find_fn live sa' scap' l st w snap hl
   rw [hfa,hi] at F
   have Hx:=Lib.hid hx
   have Hi:=Lib.hid hid
   have hil:=(List.getElem?_eq_some_iff.1 hx).1
   clear hfa hi hx hid
   go_enter Tryz.func92,Tryz.ntmps92
   go_wp2_with fail
   refine (Bt.call BG).mono ?_
   rintro e w1 ⟨v,q,rfl,⟨wk,rfl,rfl⟩,B1⟩
   clear B0 BG
   dsimp only
   obtain ⟨sa,scap,ra,rcap,bb,wb,sb,ms,es,st0,st,mt,sa',scap',ra',rcap',hf,B3⟩:=(B1.perm (List.Perm.swap ..)).wk
   have B4:=Bt.oS (B3) [4,5,8,0,1,2,3,6,7]
   clear B1 B3
   have FIN:∀ (w9:World) (cc:Array Value),Bt W h [BlkP wk (wkC st0 live (.slice sa' l.length scap') (.slice ra' V.ds.length rcap')) 188,SlP 125 15 sa' l.length scap' (snC l),BlkP W.heap.size cc 52,BlkP pb (poC V txg root live (.slice sa l.length scap) (.slice ra V.ds.length rcap) (pV bb) (pV wk) (pV wb)) 82,SlP 125 15 sa l.length scap (snC l),SlP 92 2 ra V.ds.length rcap (zrC V.ds.length),BookC wb sb V.secs ms es,SlP 92 2 ra' V.ds.length rcap' (zrC V.ds.length),StP V st bb sb (txg+1) 40 mt K C] w9->Turns W h (WkP V pb txg root live l K wk true live l K C) w9:=λ w9 cc B=>by
    have B5:=Bt.oS (B) [3,4,5,6,0,1,7,8,2]
    exact (Bt.wk_shut (wk:=wk) (fresh:=true) (st0:=st0) (st:=st) (mt:=mt) (es:=es) (ra':=ra') (rcap':=rcap') (sa':=sa') (scap':=scap') (sa:=sa) (scap:=scap) (ra:=ra) (rcap:=rcap) (bb:=bb) (wb:=wb) (ms:=ms) (sb:=sb) hf B5).fin_at 0 rfl
   have F1:∀ w,[RdS 15 sa' l.length scap' (snC l) w]->Fn 103 #[.agg (mC live (.slice sa' l.length scap') (.slice ra' V.ds.length rcap')),.int .i64 snap] w (.tuple #[.int .i64 i,.bool true]):=λ w i=>F live sa' scap' _ w i
   haveI:=(rd_sl B4 (i:=1) rfl).1
   obtain ⟨b,o,rfl,hb,hc⟩:=(rd_sl B4 (i:=1) rfl).1.cells i x.cs (by simp [snC,Hx.out])
   haveI:SubAt b (o+i*15+2) (ndL x.dir).toArray 13 w1:=⟨rfl,hb,λ j v e=>by
    have:=hc (j+2) v (by simpa [Sn.cs] using e)
    rw [show o+i*15+2+j=o+i*15+(j+2) by omega];exact this⟩
   clear F hc
   go_wp2_with (first | (with_reducible refine Fn.go λ g=>?_) | ((with_reducible apply wpList_load);(·exact rfl);(·exact ii)))
   (first | (with_reducible refine pl2 (.q [0,1,2,3,4,5,6,7,8,9,10] (.x [11] (.q [12] .d))) ?_) | refine pl1 (.q [0,1,2,3,4,5,6,7,8,9,10] (.x [11] (.q [12] .d))) ?_);simp only [Plan.run,pick,gZ,gS,gA,gN]
   (repeat (first | ((with_reducible apply wpQuiet_load);(·exact rfl);(·rintro _ ⟨gq,rfl⟩;exact ii);go_frame) | go_big_quiet_step (exact qZ)));refine nZ ?_
   refine btI ?_
   intro w2 B5
   clear B4
   go_wp2_with ((with_reducible apply wpList_store);(·exact rfl);(·exact rfl);(·exact ii))
   dsimp only [Nx]
   (repeat go_big_quiet_step (exact qZ));refine nZ ?_
   refine btI ?_
   intro w3 B6
   clear B5
   go_wp2_with fail
   refine bodyPost_ret (results_tnt rfl _ _ _ _ rfl ii) rfl ?_
   exact ⟨_,_,rfl,⟨wk,.inr (.inl ⟨hs,i,x,Hx.out,Hi.out,rfl⟩),rfl⟩,FIN _ _ B6⟩
end
def DirIs (wd:Wd) (snap:Int) (T:Objs):Prop:=(snap=-1/\T=wd.live)\/(snap≠-1/\∃ i:Nat,wd.snaps[i]?=some (snap,T))
def NodeR (V:VD) (pb txg:Nat) (root live:Nd) (l:List Sn) (K:KS) (C:Nat) (o:Option ByteArray) (v:Value) (q:SP):Prop :=
 (o=none/\(∃ w,v=.tuple #[w,.agg Nd.none.cs,.int .i64 7])/\q=PoP V pb txg root live l K C)\/∃ wk m t,o=some t/\v=.tuple #[pV wk,.agg m.cs,.int .i64 0]/\ObT K m t/\q=WkP V pb txg root live l K wk true live l K C
section
variable {V:VD} {pb txg:Nat} {root live:Nd} {l:List Sn} {K:KS} {C:Nat} {wd:Wd}
theorem WOk.dirOf (ok:WOk K txg live l wd) {snap:Int} {T:Objs} (hT:DirIs wd snap T) {wk:Nat} {v:Value} (h:LookR live l snap wk v):∃ dn,v=.tuple #[pV wk,.agg dn.cs,.int .i64 0]/\DrT K dn T:=by
 have hany:snap≠-1->∃ (i:Nat) (x:Sn),l[i]?=some x/\x.id=snap/\DrT K x.dir T:=λ hs=>by
  rcases hT with ⟨h1,_⟩ | ⟨_,i,h2⟩
  ·exact absurd h1 hs
  ·have e:=congrArg (λ z:List Int=>z[i]?) ok.ids
   simp only [List.getElem?_map,h2,Option.map_some] at e
   cases hx:l[i]? with
   | none=>rw [hx] at e;cases e
   | some x =>
    rw [hx] at e
    simp at e
    exact ⟨i,x,hx,e,ok.dirs i x _ hx h2⟩
 rcases h with ⟨h1,h2⟩ | ⟨h1,j,y,hy,hi,h2⟩ | ⟨h1,h2,h3⟩
 ·rcases hT with ⟨_,rfl⟩ | ⟨h3,_⟩
  ·exact ⟨live,h2,ok.live⟩
  ·exact absurd h1 h3
 ·obtain ⟨i,x,hx,he,hd⟩:=hany h1
  have:i=j:=by
   rcases Nat.lt_trichotomy i j with h | h | h
   ·exact absurd (he.trans hi.symm) (ok.sn.ne i j x y hx hy h)
   ·exact h
   ·exact absurd (hi.trans he.symm) (ok.sn.ne j i y x hy hx h)
  subst this
  have e2:x=y:=by rw [hx] at hy;exact Option.some.inj hy
  rw [e2] at hd
  exact ⟨y.dir,h2,hd⟩
 ·obtain ⟨i,x,hx,he,_⟩:=hany h1
  have:=List.any_eq_false.1 h2 x (List.mem_of_getElem? hx)
  simp [hasId] at this
  exact absurd he this
theorem onode_tq (ht:txg+1<=4294967295) (ok:WOk K txg live l wd) (snap:Int) (T:Objs) (hT:DirIs wd snap T) (k:Nat) (hk:k < 32) :
  Tq 91 #[pV pb,.int .i64 snap,.int .i64 k] (PoP V pb txg root live l K C) (NodeR V pb txg root live l K C (T k)):=by
 have LK:=looked_tq (V:=V) (pb:=pb) (root:=root) (live:=live) (K:=K) (C:=C) (by omega:txg<=4294967294) ok.sn.len snap
 have M:∀ w,[In (PoP V pb txg root live l K C) w]->Fn 98 #[pV pb,.int .i64 k] w (.int .i64 0):=λ w i=>by
  have:=omay_fn (k:Int) w i
  rw [show mayE (k:Int)=0 from if_pos (by omega)] at this
  exact this
 refine Tq.of λ W h B0=>?_
 go_enter Tryz.func91,Tryz.ntmps91
 go_wp2_with (with_reducible refine Fn.go λ g=>?_)
 refine (Bt.call LK).mono ?_
 rintro e w1 ⟨v,q,rfl,⟨wk,hL,rfl⟩,B1⟩
 obtain ⟨dn,rfl,dT⟩:=ok.dirOf hT hL
 obtain ⟨D,dr,hD⟩:=dT
 obtain ⟨sa,scap,ra,rcap,bb,wb,sb,ms,es,st0,st,mt,sa',scap',ra',rcap',⟨ss,us,hC9,hf⟩,B3⟩:=(B1.perm (List.Perm.swap ..)).wk
 obtain ⟨rfl,rfl⟩:=hf rfl
 have B4:=Bt.oS (B3) [8,4,7,0,1,2,3,5,6]
 have TS:=sto_st (V:=V) (st:=st0) (bb:=bb) (sb:=sb) (txg:=txg+1) (keep:=40) (meta_:=false) (by omega) (by omega)
 have G:=dget_tq TS K C dr k hk
 obtain ⟨nd,hnd⟩:∃ nd,(D k).getD Nd.none=nd:=⟨_,rfl⟩
 rw [hnd] at G
 clear B0 B1 B3 LK hL dr M TS
 dsimp only
 go_wp2_with ((with_reducible apply wpList_store);(·exact rfl);(·exact rfl);(·exact ii))
 refine wp_world (W:=W) (h:=h) (l:=[BlkP _ dn.cs 52,BlkP W.heap.size Nd.none.cs 52,BlkP wk (wkC st0 live (.slice sa' l.length scap') (.slice ra' V.ds.length rcap')) 188,StP V st0 bb sb (txg+1) 40 false K C,BlkP pb (poC V txg root live (.slice sa l.length scap) (.slice ra V.ds.length rcap) (pV bb) (pV wk) (pV wb)) 82,SlP 125 15 sa l.length scap (snC l),SlP 92 2 ra V.ds.length rcap (zrC V.ds.length),BookC wb sb V.secs ms es,SlP 125 15 sa' l.length scap' (snC l),SlP 92 2 ra' V.ds.length rcap' (zrC V.ds.length)]) ii ?_
 rintro w2 B5
 have B6:=Bt.oS (B5) [4,5,6,7,8,9,0,1,2,3]
 have B7:=B6.app [_,_,_,_,_,_]
 obtain ⟨R0,hR0⟩:∃ R0,star [BlkP pb (poC V txg root live (.slice sa l.length scap) (.slice ra V.ds.length rcap) (pV bb) (pV wk) (pV wb)) 82,SlP 125 15 sa l.length scap (snC l),SlP 92 2 ra V.ds.length rcap (zrC V.ds.length),BookC wb sb V.secs ms es,SlP 125 15 sa' l.length scap' (snC l),SlP 92 2 ra' V.ds.length rcap' (zrC V.ds.length)]=R0:=⟨_,rfl⟩
 rw [hR0] at B7
 have HR0:=Lib.hid hR0
 clear hR0 B4 B5 B6
 have FIN:∀ (w9:World),Bt W h [R0,BlkP wk (wkC st0 live (.slice sa' l.length scap') (.slice ra' V.ds.length rcap')) 188,StP V st0 bb sb (txg+1) 40 false K C] w9->Bt W h [WkP V pb txg root live l K wk true live l K C] w9:=λ w9 B=>by
  rw [<-HR0.out] at B
  have B3:=B.flat
  have B4:=Bt.oS (B3) [0,1,2,3,6,4,5,7]
  exact Bt.wk_shut (wk:=wk) (fresh:=true) (st0:=st0) (st:=st0) (mt:=false) (es:=es) (ra':=ra') (rcap':=rcap') (sa':=sa') (scap':=scap') (sa:=sa) (scap:=scap) (ra:=ra) (rcap:=rcap) (bb:=bb) (wb:=wb) (ms:=ms) (sb:=sb) ⟨ss,us,hC9,λ _=>⟨rfl,rfl⟩⟩ B4
 clear ss us hC9
 go_cut [13,14,12] (λ pv ov ev wx=>∃ b13,pv=pV b13/\ov=.bool (D k).isSome/\ev=.int .i64 0/\Bt W h [BlkP b13 nd.cs 52,BlkP W.heap.size Nd.none.cs 52,R0,BlkP wk (wkC st0 live (.slice sa' l.length scap') (.slice ra' V.ds.length rcap')) 188,StP V st0 bb sb (txg+1) 40 false K C] wx)
 case first =>
  (first | (with_reducible refine pl2 (.q [0,1,2,3,4,5,6] (.y 7 12 (.q [8,9] (.f [10,11] (.g 12 (.x [13] (.q [14,15] .d))))) (.x [7] (.q [8,9] (.f [10,11] (.x [13] (.q [14,15] .d))))))) ?_) | refine pl1 (.q [0,1,2,3,4,5,6] (.y 7 12 (.q [8,9] (.f [10,11] (.g 12 (.x [13] (.q [14,15] .d))))) (.x [7] (.q [8,9] (.f [10,11] (.x [13] (.q [14,15] .d))))))) ?_);simp only [Plan.run,pick,gZ,gS,gA,gN]
  (repeat (first | ((with_reducible apply wpQuiet_load);(·exact rfl);(·rintro _ ⟨gq,rfl⟩;exact ii);go_frame) | go_big_quiet_step (exact qZ)));refine nZ ?_
  refine ⟨?_,?_⟩
  ·refine btI ?_
   intro w3 C1
   clear B7
   go_wp2_with fail
   refine (Bt.call G).mono ?_
   rintro e w4 ⟨v,q,rfl,⟨rfl,rfl⟩,C2⟩
   clear C1
   dsimp only
   go_wp2_with fail
   dsimp only [Nx]
   (repeat go_big_quiet_step (exact qZ));refine nZ ?_
   (repeat go_big_quiet_step (exact qZ));refine nZ ?_
   rintro w5 hw5
   have C3:Bt W h _ w5:=btCls hw5
   clear C2
   go_wp2_with fail
   dsimp only [Nx]
   refine ⟨clsAl hw5 _,?_⟩
   clear hw5
   refine btI ?_
   intro w6 C4
   clear C3
   go_wp2_with ((with_reducible apply wpList_store);(·exact rfl);(·exact rfl);(·exact ii))
   dsimp only [Nx]
   (repeat go_big_quiet_step (exact qZ));refine nZ ?_
   rintro w7 hw7
   have C5:Bt W h [_,R0,_,_,_,_] w7:=btCls hw7
   clear hw7 C4
   go_wp2_with fail
   go_meet
   have C6:=Bt.oS (C5) [2,0,3,1,4,5]
   exact ⟨_,rfl,rfl,rfl,C6.drop⟩
  ·rintro w3 hw3
   have C1:Bt W h _ w3:=btCls hw3
   clear B7
   go_wp2_with fail
   dsimp only [Nx]
   refine ⟨clsAl hw3 _,?_⟩
   clear hw3
   refine btI ?_
   intro w4 C2
   clear C1
   go_wp2_with fail
   refine (Bt.call G).mono ?_
   rintro e w5 ⟨v,q,rfl,⟨rfl,rfl⟩,C3⟩
   clear C2
   dsimp only
   go_wp2_with fail
   dsimp only [Nx]
   (repeat go_big_quiet_step (exact qZ));refine nZ ?_
   (repeat go_big_quiet_step (exact qZ));refine nZ ?_
   refine btI ?_
   intro w6 C4
   clear C3
   go_wp2_with ((with_reducible apply wpList_store);(·exact rfl);(·exact rfl);(·exact ii))
   dsimp only [Nx]
   (repeat go_big_quiet_step (exact qZ));refine nZ ?_
   rintro w7 hw7
   have C5:Bt W h [_,R0,_,_,_,_] w7:=btCls hw7
   clear hw7 C4
   go_wp2_with fail
   go_meet
   have C6:=Bt.oS (C5) [2,0,3,1,4,5]
   exact ⟨_,rfl,rfl,rfl,C6.drop⟩
 case rest =>
  clear B7 G
  obtain ⟨b13,rfl,rfl,rfl,B8⟩:=hcut
  cases hd:D k with
  | none =>
   rw [hd] at hnd
   have e0:nd=Nd.none:=hnd.symm
   have hTk:=(hD k hk).2 hd
   simp only [Option.isSome]
   subst e0
   clear hnd hD
   go_wp2_with fail
   (first | (with_reducible refine pl2 (.q [0,1,3] (.f [2] (.x [4] (.q [5] .d)))) ?_) | refine pl1 (.q [0,1,3] (.f [2] (.x [4] (.q [5] .d)))) ?_);simp only [Plan.run,pick,gZ,gS,gA,gN]
   (repeat go_big_quiet_step (exact qZ));refine nZ ?_
   (repeat go_big_quiet_step (exact qZ));refine nZ ?_
   refine btI ?_
   intro w3 C1
   clear B8
   go_wp2_with ((with_reducible apply wpList_store);(·exact rfl);(·exact rfl);(·exact ii))
   dsimp only [Nx]
   (repeat go_big_quiet_step (exact qZ));refine nZ ?_
   rintro w4 hw4
   have C2:Bt W h [_,BlkP W.heap.size _ _,_,_,_] w4:=btCls hw4
   clear hw4 C1
   go_wp2_with fail
   refine bodyPost_ret (results_tnt rfl _ _ _ _ rfl ii) rfl ?_
   exact ⟨_,_,rfl,.inl ⟨hTk,⟨_,rfl⟩,rfl⟩,(Bt.wk_po (KS.le.refl K) (FIN _ C2.drop.drop)).fin_at 0 rfl⟩
  | some m =>
   rw [hd] at hnd
   have e0:nd=m:=hnd.symm
   obtain ⟨t,hTk,ot⟩:=(hD k hk).1 m hd
   simp only [Option.isSome]
   subst e0
   have Ot:=Lib.hid ot
   clear hnd hD ot
   go_wp2_with fail
   (first | (with_reducible refine pl2 (.q [0,1,3] (.f [2] (.x [4] (.q [5] .d)))) ?_) | refine pl1 (.q [0,1,3] (.f [2] (.x [4] (.q [5] .d)))) ?_);simp only [Plan.run,pick,gZ,gS,gA,gN]
   (repeat (first | ((with_reducible apply wpQuiet_load);(·exact rfl);(·rintro _ ⟨gq,rfl⟩;exact ii);go_frame) | go_big_quiet_step (exact qZ)));refine nZ ?_
   (repeat (first | ((with_reducible apply wpQuiet_load);(·exact rfl);(·rintro _ ⟨gq,rfl⟩;exact ii);go_frame) | go_big_quiet_step (exact qZ)));refine nZ ?_
   refine btI ?_
   intro w3 C1
   clear B8
   go_wp2_with ((with_reducible apply wpList_store);(·exact rfl);(·exact rfl);(·exact ii))
   dsimp only [Nx]
   (repeat go_big_quiet_step (exact qZ));refine nZ ?_
   rintro w4 hw4
   have C2:Bt W h [_,BlkP W.heap.size _ _,_,_,_] w4:=btCls hw4
   clear hw4 C1
   go_wp2_with fail
   refine bodyPost_ret (results_tnt rfl _ _ _ _ rfl ii) rfl ?_
   exact ⟨_,_,rfl,.inr ⟨wk,nd,t,hTk,rfl,Ot.out,rfl⟩,(FIN _ C2.drop.drop).fin_at 0 rfl⟩
end
def rdV (o:Option ByteArray):Value:=match o with
 | none=>.tuple #[.string ⟨#[]⟩,.int .i64 7]
 | some t=>.tuple #[.string t,.int .i64 0]
def szV (o:Option ByteArray):Value:=match o with
 | none=>.tuple #[.int .i64 0,.int .i64 7]
 | some t=>.tuple #[.int .i64 t.size,.int .i64 0]
section
variable {V:VD} {pb txg:Nat} {root:Nd} {C:Nat} {K0:KS} {wd:Wd}
theorem oread_tq (ht:txg+1<=4294967295) (snap:Int) (T:Objs) (hT:DirIs wd snap T) (k:Nat) (hk:k < 32) :
  Tq 45 #[pV pb,.int .i64 snap,.int .i64 k,.int .i64 0,.int .i64 20000] (PoS V pb txg root C K0 wd) λ v q=>v=rdV (T k)/\q=PoS V pb txg root C K0 wd:=by
 refine Tq.of λ W h B0=>?_
 obtain ⟨K,live,l,⟨hK0,ok⟩,B⟩:=B0.pos
 clear B0
 have ND:=onode_tq (V:=V) (pb:=pb) (root:=root) (C:=C) ht ok snap T hT k hk
 have Ok:=Lib.hid ok
 clear ok
 go_enter Tryz.func45,Tryz.ntmps45
 go_wp2_with fail
 refine (Bt.call ND).mono ?_
 rintro e w1 ⟨v,q,rfl,hR,B1⟩
 clear B ND
 dsimp only
 rcases hR with ⟨h1,⟨w,rfl⟩,rfl⟩ | ⟨wk,m,t,h1,rfl,ot,rfl⟩
 ·go_wp2_with ((with_reducible apply wpList_store);(·exact rfl);(·exact rfl);(·exact ii))
  go_ret2
  (first | apply fin_a | apply fin_b)
  rw [h1]
  refine ⟨⟨rfl,rfl⟩,turns_bt (W:=W) (h:=h) (l:=[_,PoP V pb txg root live l K C]) ii λ w9 B9=>(B9.drop.head λ h q=>⟨K,live,l,⟨hK0,Ok.out⟩,q⟩).fin_at 0 rfl⟩
 ·obtain ⟨sa,scap,ra,rcap,bb,wb,sb,ms,es,st0,st,mt,sa',scap',ra',rcap',⟨ss,us,hC9,hf⟩,B3⟩:=B1.wk
  obtain ⟨rfl,rfl⟩:=hf rfl
  have B4:=Bt.oS (B3) [4,7,0,1,2,3,5,6]
  have TS:=sto_st (V:=V) (st:=st0) (bb:=bb) (sb:=sb) (txg:=txg+1) (keep:=40) (meta_:=false) (by omega) (by omega)
  obtain ⟨g,o,rfl⟩:=ot
  have RD:=read_tq TS K C o 0 20000 (by omega) (by omega)
  have hz:=o.sz
  rw [show min 20000 (m.size.toNat - 0)=m.size.toNat by omega] at RD
  have FIN:∀ (w9:World),Bt W h [BlkP wk (wkC st0 live (.slice sa' l.length scap') (.slice ra' V.ds.length rcap')) 188,StP V st0 bb sb (txg+1) 40 false K C,BlkP pb (poC V txg root live (.slice sa l.length scap) (.slice ra V.ds.length rcap) (pV bb) (pV wk) (pV wb)) 82,SlP 125 15 sa l.length scap (snC l),SlP 92 2 ra V.ds.length rcap (zrC V.ds.length),BookC wb sb V.secs ms es,SlP 125 15 sa' l.length scap' (snC l),SlP 92 2 ra' V.ds.length rcap' (zrC V.ds.length)] w9->Turns W h (PoS V pb txg root C K0 wd) w9:=λ w9 B=>by
   have B4:=Bt.oS (B) [2,3,4,5,0,6,7,1]
   have B5:=Bt.wk_shut (wk:=wk) (fresh:=true) (st0:=st0) (st:=st0) (mt:=false) (es:=es) (ra':=ra') (rcap':=rcap') (sa':=sa') (scap':=scap') (sa:=sa) (scap:=scap) (ra:=ra) (rcap:=rcap) (bb:=bb) (wb:=wb) (ms:=ms) (sb:=sb) ⟨ss,us,hC9,λ _=>⟨rfl,rfl⟩⟩ B4
   exact ((Bt.wk_po (KS.le.refl K) B5).head λ h q=>⟨K,live,l,⟨hK0,Ok.out⟩,q⟩).fin_at 0 rfl
  clear B1 B3 ss us hC9 o TS
  go_wp2_with ((with_reducible apply wpList_store);(·exact rfl);(·exact rfl);(·exact ii))
  (first | (with_reducible refine pl2 (.q [0,1,2,3,4,5,6,7] (.x [8] (.q [9,10,11,12] .d))) ?_) | refine pl1 (.q [0,1,2,3,4,5,6,7] (.x [8] (.q [9,10,11,12] .d))) ?_);simp only [Plan.run,pick,gZ,gS,gA,gN]
  (repeat (first | ((with_reducible apply wpQuiet_load);(·exact rfl);(·rintro _ ⟨gq,rfl⟩;exact ii);go_frame) | go_big_quiet_step (exact qZ)));refine nZ ?_
  refine btI ?_
  intro w2 B5
  clear B4
  go_wp2_with fail
  refine (Bt.call RD).mono ?_
  rintro e w3 ⟨v,q,rfl,⟨rfl,rfl⟩,B6⟩
  clear B5
  dsimp only
  go_wp2_with fail
  dsimp only [Nx]
  (repeat go_big_quiet_step (exact qZ));refine nZ ?_
  rintro w4 hw4
  have B7:Bt W h [_,_,_,_,_,_,_,_,_] w4:=btCls hw4
  clear hw4 B6
  go_wp2_with fail
  go_ret2
  (first | apply fin_a | apply fin_b)
  rw [h1]
  exact ⟨⟨rfl,rfl⟩,FIN _ B7.drop⟩
theorem osize_tq (ht:txg+1<=4294967295) (snap:Int) (T:Objs) (hT:DirIs wd snap T) (k:Nat) (hk:k < 32) :
  Tq 46 #[pV pb,.int .i64 snap,.int .i64 k] (PoS V pb txg root C K0 wd) λ v q=>v=szV (T k)/\q=PoS V pb txg root C K0 wd:=by
 refine Tq.of λ W h B0=>?_
 obtain ⟨K,live,l,⟨hK0,ok⟩,B⟩:=B0.pos
 clear B0
 have ND:=onode_tq (V:=V) (pb:=pb) (root:=root) (C:=C) ht ok snap T hT k hk
 have Ok:=Lib.hid ok
 clear ok
 go_enter Tryz.func46,Tryz.ntmps46
 go_wp2_with fail
 refine (Bt.call ND).mono ?_
 rintro e w1 ⟨v,q,rfl,hR,B1⟩
 clear B ND
 dsimp only
 rcases hR with ⟨h1,⟨w,rfl⟩,rfl⟩ | ⟨wk,m,t,h1,rfl,ot,rfl⟩
 ·go_wp2_with ((with_reducible apply wpList_store);(·exact rfl);(·exact rfl);(·exact ii))
  go_ret2
  (first | apply fin_a | apply fin_b)
  rw [h1]
  refine ⟨⟨rfl,rfl⟩,turns_bt (W:=W) (h:=h) (l:=[_,PoP V pb txg root live l K C]) ii λ w9 B9=>(B9.drop.head λ h q=>⟨K,live,l,⟨hK0,Ok.out⟩,q⟩).fin_at 0 rfl⟩
 ·go_wp2_with ((with_reducible apply wpList_store);(·exact rfl);(·exact rfl);(·exact ii))
  go_ret2
  (first | apply fin_a | apply fin_b)
  rw [h1]
  obtain ⟨g,o,rfl⟩:=ot
  have hz:=o.sz
  refine ⟨⟨?_,rfl⟩,turns_bt (W:=W) (h:=h) (l:=[_,WkP V pb txg root live l K wk true live l K C]) ii λ w9 B9=>((Bt.wk_po (KS.le.refl K) B9.drop).head λ h q=>⟨K,live,l,⟨hK0,Ok.out⟩,q⟩).fin_at 0 rfl⟩
  simp only [szV,txt_size]
  rw [Int.toNat_of_nonneg hz.1]
  rfl
end
def idsO (T:Objs):List Nat:=(List.range 32).filter λ k=>(T k).isSome
theorem idsO_len (T:Objs):(idsO T).length<=32:=by
 have:=List.length_filter_le (λ k=>(T k).isSome) (List.range 32)
 rwa [List.length_range] at this
instance aggSn:AggTy 125 15:=⟨λ W b o cs _=>run_loadSub W b o 15 cs _ _ Tryz.underlying125 rfl (by kernel_rfl)⟩
section
variable {V:VD} {pb txg:Nat} {root:Nd} {C:Nat} {K0:KS} {wd:Wd}
theorem olist_tq (ht:txg+1<=4294967295) (snap:Int) (T:Objs) (hT:DirIs wd snap T) :
  Tq 47 #[pV pb,.int .i64 snap] (PoS V pb txg root C K0 wd) λ v q=>∃ (ad:Option Addr) (cap:Nat),v=.tuple #[.slice ad (idsO T).length cap,.int .i64 0]/\q=star [PoS V pb txg root C K0 wd,SlP 3 1 ad (idsO T).length cap (intC (idsO T))]:=by
 refine Tq.of λ W h B0=>?_
 obtain ⟨K,live,l,⟨hK0,ok⟩,B⟩:=B0.pos
 clear B0
 have LK:=looked_tq (V:=V) (pb:=pb) (root:=root) (live:=live) (K:=K) (C:=C) (by omega:txg<=4294967294) ok.sn.len snap
 go_enter Tryz.func47,Tryz.ntmps47
 go_wp2_with fail
 refine (Bt.call LK).mono ?_
 rintro e w1 ⟨v,q,rfl,⟨wk,hL,rfl⟩,B1⟩
 obtain ⟨dn,rfl,dT⟩:=ok.dirOf hT hL
 obtain ⟨D,dr,hD⟩:=dT
 obtain ⟨sa,scap,ra,rcap,bb,wb,sb,ms,es,st0,st,mt,sa',scap',ra',rcap',⟨ss,us,hC9,hf⟩,B3⟩:=B1.wk
 obtain ⟨rfl,rfl⟩:=hf rfl
 have B4:=Bt.oS (B3) [4,7,0,1,2,3,5,6]
 have TS:=sto_st (V:=V) (st:=st0) (bb:=bb) (sb:=sb) (txg:=txg+1) (keep:=40) (meta_:=false) (by omega) (by omega)
 have G:=dlist_tq TS K C dr
 have e1:idsTo D 32=idsO T:=List.filter_congr λ k hk=>by
  have hk:k < 32:=by simpa using hk
  obtain ⟨h1,h2⟩:=hD k hk
  cases hd:D k with
  | none=>rw [h2 hd];rfl
  | some m=>obtain ⟨t,h3,_⟩:=h1 m hd;rw [h3];rfl
 rw [e1] at G
 have Ok:=Lib.hid ok
 have FIN:∀ (w9:World) (L:List SP),Bt W h ([BlkP wk (wkC st0 live (.slice sa' l.length scap') (.slice ra' V.ds.length rcap')) 188,StP V st0 bb sb (txg+1) 40 false K C,BlkP pb (poC V txg root live (.slice sa l.length scap) (.slice ra V.ds.length rcap) (pV bb) (pV wk) (pV wb)) 82,SlP 125 15 sa l.length scap (snC l),SlP 92 2 ra V.ds.length rcap (zrC V.ds.length),BookC wb sb V.secs ms es,SlP 125 15 sa' l.length scap' (snC l),SlP 92 2 ra' V.ds.length rcap' (zrC V.ds.length)]++L) w9->Bt W h (PoS V pb txg root C K0 wd::L) w9:=λ w9 L B=>by
  have B2:=B.app [_,_,_,_,_,_,_,_]
  have B3:Bt W h (star (WkL V pb txg root live l sa scap ra rcap bb wb sb ms es wk st0 st0 false live l sa' scap' ra' rcap' K C)::L) w9:=B2.head λ h s=>by
   have s4:=s.perm (l':=_) (perm_ord _ [2,3,4,5,0,6,7,1] (by kernel_rfl))
   simp only [ordL,List.getElem?_cons_zero,List.getElem?_cons_succ] at s4
   exact s4
  have B5:=Bt.wk_shut (wk:=wk) (fresh:=true) (st0:=st0) (st:=st0) (mt:=false) (es:=es) (ra':=ra') (rcap':=rcap') (sa':=sa') (scap':=scap') (sa:=sa) (scap:=scap) (ra:=ra) (rcap:=rcap) (bb:=bb) (wb:=wb) (ms:=ms) (sb:=sb) ⟨ss,us,hC9,λ _=>⟨rfl,rfl⟩⟩ B3.flat
  exact (Bt.wk_po (KS.le.refl K) B5).head λ h q=>⟨K,live,l,⟨hK0,Ok.out⟩,q⟩
 have HF:=Lib.hid FIN
 clear FIN
 clear B B1 B3 LK hL dr TS ss us hC9 e1 hD ok
 dsimp only
 go_wp2_with ((with_reducible apply wpList_store);(·exact rfl);(·exact rfl);(·exact ii))
 (first | (with_reducible refine pl2 (.q [0,1,2,3,4,5] (.x [6] (.q [7,8,9,10] .d))) ?_) | refine pl1 (.q [0,1,2,3,4,5] (.x [6] (.q [7,8,9,10] .d))) ?_);simp only [Plan.run,pick,gZ,gS,gA,gN]
 (repeat (first | ((with_reducible apply wpQuiet_load);(·exact rfl);(·rintro _ ⟨gq,rfl⟩;exact ii);go_frame) | go_big_quiet_step (exact qZ)));refine nZ ?_
 refine btI ?_
 intro w2 B5
 clear B4
 go_wp2_with fail
 refine (Bt.call G).mono ?_
 rintro e w3 ⟨v,q,rfl,⟨ad,cap,rfl,rfl⟩,B6⟩
 clear B5
 dsimp only
 go_wp2_with fail
 dsimp only [Nx]
 (repeat go_big_quiet_step (exact qZ));refine nZ ?_
 refine btI ?_
 intro w4 B7
 clear B6
 go_wp2_with fail
 go_ret2
 (first | apply fin_a | apply fin_b)
 refine ⟨⟨ad,cap,rfl,rfl⟩,?_⟩
 have B8:=Bt.oS (B7) [2,0,1,3,4,5,6,7,8]
 have B9:=Bt.oS (B8.flat) [3,0,4,5,6,7,8,9,1,2]
 exact ((HF.out w4 [_,_] B9).app [_,_]).fin_at 0 rfl
theorem pstate_tq {live:Nd} {l:List Sn} {K:KS} (hl:l.length<=4) :
  Tq 48 #[pV pb] (PoP V pb txg root live l K C) λ v q=>∃ sa scap ra rcap,v=.agg (mC live (.slice sa l.length scap) (.slice ra V.ds.length rcap))/\q=star [PoP V pb txg root live l K C,SlP 125 15 sa l.length scap (snC l)]:=by
 refine Tq.of λ W h B0=>?_
 obtain ⟨sa,scap,ra,rcap,ob,owk,ow,bk,sb,N,F,ms,es,⟨ok,hC⟩,pv,B1⟩:=B0.po
 simp only [PoL,List.cons_append,List.nil_append] at B1
 have hdn:V.ds.length<=100:=by
  haveI:=isDevs_of (i:=4) B1 rfl
  exact (devs_facts V F W).1.le
 have MC:=λ (w:World) (_:RdS 15 sa l.length scap (snC l) w) (_:RdS 2 ra V.ds.length rcap (zrC V.ds.length) w)=>mcopy_at live sa scap l w V.ds.length ra rcap hl hdn
 have r1:=rd_sl B1 (i:=1) rfl
 have r2:=rd_sl B1 (i:=2) rfl
 clear B0
 haveI i1:RdS 15 sa l.length scap (snC l) W:=r1.1
 haveI i2:RdS 2 ra V.ds.length rcap (zrC V.ds.length) W:=r2.1
 go_enter Tryz.func48,Tryz.ntmps48
 go_wp2_with ((with_reducible apply wpList_load);(·exact rfl);(·exact ii))
 refine (MC _ ii ii r1.2.2 r2.2.2).mono ?_
 rintro e w2 ⟨sa',scap',ra',rcap',rfl,hg,hn⟩
 have B2:=Bt.join (l:=[_,BlkP pb (poC V txg root live (.slice sa l.length scap) (.slice ra V.ds.length rcap) (.pointer ob) (.pointer owk) (.pointer ow)) 82,_,_,_,_,_]) (W:=W) (h:=h) ii hg hn
 clear hn hg r1 r2 B1
 dsimp only
 go_wp2_with ((with_reducible apply wpList_store);(·exact rfl);(·exact rfl);(·exact ii))
 (refine bodyPost_ret (results_c (z:=24) rfl _ _ _ _ rfl inferInstance Tryz.underlying78 rfl (by kernel_rfl)) rfl ?_)
 (first | apply fin_a | apply fin_b)
 refine ⟨⟨sa',scap',ra',rcap',rfl,rfl⟩,turns_bt (W:=W) (h:=h) (l:=[_,_,BlkP pb (poC V txg root live (.slice sa l.length scap) (.slice ra V.ds.length rcap) (.pointer ob) (.pointer owk) (.pointer ow)) 82,_,_,_,_,_]) ii λ w9 B9=>?_⟩
 have B10:=Bt.oS (B9.flat) [3,4,5,6,7,8,0,1,2]
 have B11:=Bt.po_shut (sa:=sa) (scap:=scap) (ra:=ra) (rcap:=rcap) (ob:=ob) (owk:=owk) (ow:=ow) (bk:=bk) (es:=es) ok hC pv B10
 exact (B11.app [_,_]).fin_at 0 rfl
def snI (l:List Sn):List (List Value):=l.map λ x=>[.int .i64 x.id]
theorem osnaps_tq :
  Tq 17 #[pV pb] (PoS V pb txg root C K0 wd) λ v q=>∃ (ad:Option Addr) (cap:Nat),v=.slice ad wd.snaps.length cap/\q=star [PoS V pb txg root C K0 wd,SlP 3 1 ad wd.snaps.length cap (wd.snaps.map λ y=>[.int .i64 y.1])]:=by
 refine Tq.of λ W h B0=>?_
 obtain ⟨K,live,l,⟨hK0,ok⟩,B⟩:=B0.pos
 clear B0
 have hl:=ok.sn.len
 have ST:=pstate_tq (V:=V) (pb:=pb) (txg:=txg) (root:=root) (C:=C) (live:=live) (K:=K) hl
 have e1:wd.snaps.length=l.length:=(map_len ok.ids).symm
 have e2:(wd.snaps.map λ y=>[Value.int .i64 y.1])=snI l:=by
  have:=congrArg (λ z:List Int=>z.map λ i=>[Value.int .i64 i]) ok.ids
  simp only [List.map_map] at this
  exact this.symm
 rw [e1,e2]
 have Ok:=Lib.hid ok
 clear e1 e2 ok
 have FL:∀ (s st:Value) (w:World),(Instr.field 78 (.agg (mC live s st)) 1).run Tryz.prog w=.ok s w:=λ s st w=>by kernel_rfl
 go_enter Tryz.func17,Tryz.ntmps17
 go_wp2_with fail
 refine (Bt.call ST).mono ?_
 rintro e w1 ⟨v,q,rfl,⟨sa,scap,ra,rcap,rfl,rfl⟩,B1⟩
 clear B ST
 have B2:=(B1.flat).more (SlP.nil 3 1 _)
 simp only [List.cons_append,List.nil_append] at B2
 clear B1
 dsimp only
 go_wp2_with fail
 go_loopw [3,10] (λ ov iv wr=>∃ (k:Nat) (ad:Option Addr) (cap:Nat),k<=l.length/\iv=.int .i64 k/\ov=.slice ad k cap/\Bt W h [PoP V pb txg root live l K C,SlP 125 15 sa l.length scap (snC l),SlP 3 1 ad k cap (snI (l.take k))] wr)
  (λ _ iv _=>l.length - (intOf iv).toNat)
 case atStart=>exact ⟨0,none,0,Nat.zero_le _,rfl,rfl,B2⟩
 case round =>
  clear B2
  obtain ⟨k,ad,cap,hk,rfl,rfl,B⟩:=hrel
  by_cases hlt:k < l.length
  ·obtain ⟨x,hx⟩:∃ x,l[k]?=some x:=⟨_,List.getElem?_eq_getElem hlt⟩
   obtain ⟨b,o,rfl,hb,hc⟩:=(rd_sl B (i:=1) rfl).1.cells k x.cs (by simp [snC,hx])
   haveI:SubAt b (o+k*15) (#[.int .i64 x.id,.int .i64 x.txg,.int .i64 x.dir.size,.int .i64 x.dir.root.ag,.int .i64 x.dir.root.aa,.int .i64 x.dir.root.bg,.int .i64 x.dir.root.ba,.bool x.dir.root.two,.int .i64 x.dir.root.size,.int .i64 x.dir.root.level,.int .i64 x.dir.root.birth,.int .u64 x.dir.root.sum.a,.int .u64 x.dir.root.sum.b,.int .u64 x.dir.root.sum.c,.int .u64 x.dir.root.sum.d]) 15 wr:=⟨rfl,hb,λ j v e=>hc j v e⟩
   have e3:snI (l.take (k+1))=snI (l.take k)++[[.int .i64 x.id]]:=by rw [List.take_add_one,hx];simp [snI]
   have E3:=Lib.hid e3
   clear hc hx e3
   go_wp2_with (first | (at_builtin;(with_reducible apply wpList_appT);(·exact rfl);(·exact rfl);(·exact ii);(·exact ii);(·exact ii);(·exact rfl);(·decide);(·omega);intro gA capA wA bA;(try dsimp only at bA)) | ((with_reducible apply wpList_load);(·exact rfl);(·exact ii)) | ((with_reducible apply wpList_store);(·exact rfl);(·exact rfl);(·exact ii)))
   refine ⟨⟨k+1,some ⟨gA,0,none⟩,capA,hlt,by go_num,rfl,?_⟩,by simp [intOf];omega⟩
   rw [E3.out]
   exact bA.drop.drop
  ·obtain rfl:l.length=k:=by omega
   go_wp2_with fail
   go_ret
   (first | apply fin_a | apply fin_b)
   refine ⟨⟨ad,cap,rfl,rfl⟩,?_⟩
   have B3:=Bt.oS (B) [0,2,1]
   rw [List.take_length] at B3
   exact ((B3.head (q:=PoS V pb txg root C K0 wd) λ h q=>⟨K,live,l,⟨hK0,Ok.out⟩,q⟩).app [_,_]).fin_at 0 rfl
end
end Go.Proofs.YtlfjdjndhcmliaaGreatDoor
