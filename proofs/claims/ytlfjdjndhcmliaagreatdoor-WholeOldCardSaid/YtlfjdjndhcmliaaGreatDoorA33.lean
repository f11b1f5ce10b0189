/- WholeOld, part 33. -/
import Derived.Test.YtlfjdjndhcmliaaGreatDoorA32
set_option maxRecDepth 100000
set_option maxHeartbeats 4000000
set_option linter.all false
namespace Go.Proofs.YtlfjdjndhcmliaaGreatDoor
open Go.RowKit Go.Sort
theorem Bt.wk_shut{V:VD}{pb txg:Nat}{root live:Nd}{l:List Sn}{K:KS}{C:Nat}{W w:World}{h:Hl}{L:List SP}{wk:Nat}{fresh:Bool}{live':Nd}{l':List Sn}{K':KS}{sa:Option Addr}{scap:Nat}{ra:Option Addr}{rcap:Nat}{bb wb:Nat}{sb:ZO}{ms:List MD}{es:List Nat}{st0 st:Nat}{mt:Bool}{sa':Option Addr}{scap':Nat}{ra':Option Addr}{rcap':Nat}
  (e:X6 sb V.s/\Zlc V K ms/\C<=1000000000/\(fresh=true->st0=st/\mt=false)) (B:Bt W h (WkL V pb txg root live l sa scap ra rcap bb wb sb ms es wk st0 st mt live' l' sa' scap' ra' rcap' K' C++L) w):Bt W h (yL V pb txg root live l K wk fresh live' l' K' C::L) w :=
 (B.app _).head λ h s=>⟨sa,scap,ra,rcap,bb,wb,sb,ms,es,st0,st,mt,sa',scap',ra',rcap',e,s⟩
def ObR(S:KS->Nat->SP)(K:KS)(c:Nat)(X:SP)(P:Nd->KS->Prop)(v:Value)(q:SP):Prop :=
 (∃ e:Int,e≠0/\v=.tuple #[.agg Nd.none.cs,.int .i64 e]/\q=star [S K c,X])\/∃ n K',v=.tuple #[.agg n.cs,.int .i64 0]/\K.le K'/\P n K'/\q=star [S K' c,X]
section
variable{V:VD}{pb txg:Nat}{root live:Nd}{l:List Sn}{K:KS}{C:Nat}
theorem ZiA(ht:txg+1<=4294967295){D:Nat->Option Nd}(dr:Dr K live D){Td:Yt}(hD:∀ id,id<32->(∀ m,D id=some m->∃ t,Td id=some t/\yG K m t)/\(D id=none->Td id=none))(sn:Um K txg l)(id:Nat)(hid:id<32)(must:Bool)(b1 b2 b3:Nat)(fa:FuncId)(qa:XB Tryz.prog fa=true)(ca:Array Value)(Xa:SP)(Q:ByteArray->ByteArray->Prop)(hC:140000<=C)
  (A:∀(st bb:Nat)(sb:ZO)(n:Nd)(t:ByteArray),yG K n t->Tq fa (#[Jv st,.agg n.cs]++ca) (star [Qe V st bb sb (txg+1) 40 false K C,Xa]) (ObR (Qe V st bb sb (txg+1) 40 false) K (C-70000) Xa λ n' K'=>∃ t',Q t t'/\yG K' n' t')) (wk:Nat) :
  Tq 159 #[pV wk,pV b1,pV b2,pV b3] (star [yL V pb txg root live l K wk true live l K C,star [Zd b1 #[.int .i64 id] 3,Zd b2 #[.bool must] 4,Zd b3 #[.func (.func fa) #[] ca] 194,Xa]])
   (ZhP V pb txg root live l K wk (C-140000) (star [Zd b1 #[.int .i64 id] 3,Zd b2 #[.bool must] 4,Zd b3 #[.func (.func fa) #[] ca] 194,Xa])
    λ live' l' K'=>l'=l/\(must=true->(D id).isSome=true)/\∃ n' t' t0,(∀ t,Td id=some t->t0=t)/\(Td id=none->t0=⟨#[]⟩)/\Q t0 t'/\yG K' n' t'/\Dr K' live' (Yw D id (some n'))):=by
 refine Tq.of λ W h B0=>?_
 have B1:=Bt.oS (B0.flat) [1,0];have B2:=Bt.oS (B1.flat) [4,0,1,2,3];obtain⟨sa,scap,ra,rcap,bb,wb,sb,ms,es,st0,st,mt,sa',scap',ra',rcap',⟨ss,us,hC9,hf⟩,B3⟩:=B2.wk;obtain⟨rfl,rfl⟩:=hf rfl;clear hf B0 B1 B2;have B4:=Bt.oS (B3) [0,1,2,3,5,6,4,8,9,10,11,7];have B:=B4.app [_,_,_,_,_,_];clear B3 B4;obtain⟨R0,hR0⟩:∃ R0,star [Zd pb (X7 V txg root live (.slice sa l.length scap) (.slice ra V.ds.length rcap) (pV bb) (pV wk) (pV wb)) 82,Zw 125 15 sa l.length scap (Ye l),Zw 92 2 ra V.ds.length rcap (YU V.ds.length),ZV wb sb V.secs ms es,Zw 125 15 sa' l.length scap' (Ye l),Zw 92 2 ra' V.ds.length rcap' (YU V.ds.length)]=R0:=⟨_,rfl⟩
 rw [hR0]at B;have T:=Qn (V:=V) (st:=st0) (bb:=bb) (sb:=sb) (txg:=txg+1) (keep:=40) (meta_:=false) (by omega) (by omega);have G:=Zaj T K C dr id hid;obtain⟨nd,hnd⟩:∃ nd,(D id).getD Nd.none=nd:=⟨_,rfl⟩
 rw [hnd]at G;have HR0:=Lib.hid hR0;clear hR0
 go_in
 go_upto_region 1 with fail
 go_cut [6,7,8] (λ pv ov ev wx=>∃ b6,pv=pV b6/\ov=.bool (D id).isSome/\ev=.int .i64 0/\Bt W h [Zd b6 nd.cs 52,Zd wk (J8 st0 live (.slice sa' l.length scap') (.slice ra' V.ds.length rcap')) 188,Zd b1 #[.int .i64 id] 3,Zd b2 #[.bool must] 4,Zd b3 #[.func (.func fa) #[] ca] 194,Xa,R0,Qe V st0 bb sb (txg+1) 40 false K C] wx)
 case first =>
  refine plZ (.q [0,1,2,3,4,5,6,7,8,9,10] (.y 11 16 (.q [12,13] (.f [14,15] (.g 16 (.x [17] (.q [18,19] .d))))) (.x [11] (.q [12,13] (.f [14,15] (.x [17] (.q [18,19] .d))))))) ?_;simp only [Zk.run,pick,gZ,gS,gA,gN]
  (repeat(first|((with_reducible apply Zc);(·exact rfl);(·rintro _ ⟨gq,rfl⟩;exact ii);go_frame)|go_big_quiet_step (exact qZ)));refine nZ ?_
  refine⟨?_,?_⟩
  ·refine Z4 ?_;intro w1 B1;clear B;go_wp2_with fail;refine(Bt.call G).mono ?_;rintro e w2 ⟨v,q,rfl,⟨rfl,rfl⟩,B2⟩;clear B1;dsimp only;go_wp2_with fail;dsimp only [Nx]
   (repeat go_big_quiet_step (exact qZ));refine nZ ?_
   (repeat go_big_quiet_step (exact qZ));refine nZ ?_
   rintro w3 hw3;have B3:Bt W h _ w3:=Ze hw3;clear B2;go_wp2_with fail;dsimp only [Nx];refine⟨Kw hw3 _,?_⟩;clear hw3;refine Z4 ?_;intro w4 B4;clear B3;go_wp2_with((with_reducible apply Zb);(·exact rfl);(·exact rfl);(·exact ii));dsimp only [Nx]
   (repeat go_big_quiet_step (exact qZ));refine nZ ?_
   rintro w5 hw5;have B5:Bt W h [_,R0,_,_,_,_,_,_] w5:=Ze hw5;clear hw5 B4;go_wp2_with fail
   go_meet
   have B6:=Bt.oS (B5) [0,2,3,4,5,6,1,7];exact⟨_,rfl,rfl,rfl,B6⟩
  ·rintro w1 hw1;have B1:Bt W h _ w1:=Ze hw1;clear B;go_wp2_with fail;dsimp only [Nx];refine⟨Kw hw1 _,?_⟩;refine Z4 ?_;intro w2 B2;clear B1 hw1;go_wp2_with fail;refine(Bt.call G).mono ?_;rintro e w3 ⟨v,q,rfl,⟨rfl,rfl⟩,B3⟩;clear B2;dsimp only;go_wp2_with fail;dsimp only [Nx]
   (repeat go_big_quiet_step (exact qZ));refine nZ ?_
   (repeat go_big_quiet_step (exact qZ));refine nZ ?_
   refine Z4 ?_;intro w4 B4;clear B3;go_wp2_with((with_reducible apply Zb);(·exact rfl);(·exact rfl);(·exact ii));dsimp only [Nx]
   (repeat go_big_quiet_step (exact qZ));refine nZ ?_
   rintro w5 hw5;have B5:Bt W h [_,R0,_,_,_,_,_,_] w5:=Ze hw5;clear hw5 B4;go_wp2_with fail
   go_meet
   have B6:=Bt.oS (B5) [0,2,3,4,5,6,1,7];exact⟨_,rfl,rfl,rfl,B6⟩
 case rest =>
  clear B G;obtain⟨b6,rfl,rfl,rfl,B1⟩:=hcut
  obtain⟨t0,ht1,ht2,ot⟩:∃ t0,(∀ t,Td id=some t->t0=t)/\(Td id=none->t0=⟨#[]⟩)/\yG K nd t0:=by
   obtain⟨h1,h2⟩:=hD id hid;cases hd:D id with
   |none =>
    rw [hd]at hnd;have e:=h2 hd;refine⟨⟨#[]⟩,λ t h=>?_,λ _=>rfl,?_⟩
    ·rw [e]at h;cases h
    ·rw [<-hnd];exact⟨_,Ob.none K,rfl⟩
   |some m =>
    rw [hd]at hnd;obtain⟨t,e,o⟩:=h1 m hd;refine⟨t,λ t' h=>?_,λ h=>?_,?_⟩
    ·rw [e]at h;cases h;rfl
    ·rw [e]at h;cases h
    ·rw [<-hnd];exact o
  have P:=A st0 bb sb nd t0 ot;have Ht1:=Lib.hid ht1;have Ht2:=Lib.hid ht2;have HC:=λ args w=>Z9 (P:=Tryz.prog) qa args w
  have Hdr:=Lib.hid dr;clear hnd ot ht1 ht2 A hD dr;obtain⟨sm,hsm⟩:∃ b,(D id).isSome=b:=⟨_,rfl⟩
  rw [hsm];have Hsm:=Lib.hid hsm;clear hsm
  have FIN:∀(w9:World)(cs6:Array Value)(st:Nat)(mt:Bool)(live':Nd)(K':KS)(c:Nat),C-140000<=c->Bt W h [Zd b6 cs6 52,Zd wk (J8 st0 live' (.slice sa' l.length scap') (.slice ra' V.ds.length rcap')) 188,Zd b1 #[.int .i64 id] 3,Zd b2 #[.bool must] 4,Zd b3 #[.func (.func fa) #[] ca] 194,Xa,R0,Qe V st bb sb (txg+1) 40 mt K' c] w9 ->
    Zg W h (star [yL V pb txg root live l K wk false live' l K' (C-140000),star [Zd b1 #[.int .i64 id] 3,Zd b2 #[.bool must] 4,Zd b3 #[.func (.func fa) #[] ca] 194,Xa]]) w9:=λ w9 cs6 st mt live' K' c hc B=>by
   have T9:=Qn (V:=V) (st:=st) (bb:=bb) (sb:=sb) (txg:=txg+1) (keep:=40) (meta_:=mt) (by omega) (by omega);have B2:=Bt.oS (B.drop) [5,6,0,1,2,3,4];rw [<-HR0.out]at B2;have B3:=B2.flat;have B4:=Bt.oS (B3) [6,0,1,2,3,4,5,7,8,9,10,11];have B5:=B4.head λ h q=>T9.less K' c (C-140000) hc h q
   have B6:=Bt.oS (B5) [1,2,3,4,7,5,6,0,8,9,10,11];have B7:=Bt.wk_shut (wk:=wk) (fresh:=false) (st0:=st0) (st:=st) (mt:=mt) (es:=es) (ra':=ra') (rcap':=rcap') (sa':=sa') (scap':=scap') (sa:=sa) (scap:=scap) (ra:=ra) (rcap:=rcap) (bb:=bb) (wb:=wb) (ms:=ms) (sb:=sb) ⟨ss,us,by omega,λ h=>by cases h⟩ B6;have B8:=Bt.oS (B7) [1,2,3,4,0];exact(((B8.app [_,_,_,_]).perm (List.Perm.swap ..)).app [_,_]).fin_at 0 rfl
  rcases(show (must=true/\sm=false)\/(must=false/\sm=false)\/(must=false/\sm=true)\/(must=true/\sm=true) by cases must<;>cases sm<;>simp)with ⟨rfl,rfl⟩|⟨rfl,rfl⟩|⟨rfl,rfl⟩|⟨rfl,rfl⟩
  case inl =>
   go_wp2_with fail;go_ret
   (first|apply Zv|apply Zu)
   exact⟨.inl ⟨7,live,l,K,by decide,rfl,KS.le.refl K,rfl⟩,FIN _ _ st0 false live K C (by omega) B1⟩
  all_goals
   have B2:=Bt.oS (B1) [7,5,0,1,2,3,4,6];have B3:=B2.app [_,_];clear B1 B2;go_wp2_with fail;refine plZ (.q [0,1,2,3,4,5,6] (.x [7] (.q [8,9] (.f [10] (.x [11] (.q [12] .d)))))) ?_;simp only [Zk.run,pick,gZ,gS,gA,gN]
   (repeat(first|((with_reducible apply Zc);(·exact rfl);(·rintro _ ⟨gq,rfl⟩;exact ii);go_frame)|go_big_quiet_step (exact qZ)));refine nZ ?_
   refine Z4 ?_;intro w1 B4;clear B3;go_wp2_with fail;refine(Bt.call P).mono ?_;rintro e w2 ⟨v,q,rfl,hR,B5⟩;clear B4;dsimp only;rcases hR with ⟨e,he,rfl,rfl⟩|⟨n',K',rfl,hK,⟨t',hQ,o'⟩,rfl⟩
   ·have B6:=B5.flat;clear B5;simp only [List.cons_append,List.nil_append]at B6;go_wp2_with fail;dsimp only [Nx]
    (repeat go_big_quiet_step (exact qZ));refine nZ ?_
    (repeat go_big_quiet_step (exact qZ));refine nZ ?_
    refine Z4 ?_;intro w3 B7;clear B6;go_wp2_with((with_reducible apply Zb);(·exact rfl);(·exact rfl);(·exact ii));dsimp only [Nx]
    (repeat go_big_quiet_step (exact qZ));refine nZ ?_
    refine Z4 ?_;intro w4 B8;clear B7;go_wp2_with fail;go_ret
    (first|apply Zv|apply Zu)
    have B9:=Bt.oS (B8) [2,3,4,5,6,1,7,0];exact⟨.inl ⟨e,live,l,K,he,rfl,KS.le.refl K,rfl⟩,FIN _ _ st0 false live K (C-70000) (by omega) B9⟩
   ·have B6:=B5.flat;clear B5;simp only [List.cons_append,List.nil_append]at B6;have HQ:=Lib.hid hQ;have HO:=Lib.hid o'
    have nf:Yv n':=by
     obtain⟨h0,p,_⟩:=B6.mem (i:=0) rfl;obtain⟨g,o,_⟩:=o';exact ZjE T p o
    clear hQ o';go_wp2_with fail;dsimp only [Nx]
    (repeat go_big_quiet_step (exact qZ));refine nZ ?_
    (repeat go_big_quiet_step (exact qZ));refine nZ ?_
    refine Z4 ?_;intro w3 B7;clear B6;go_wp2_with((with_reducible apply Zb);(·exact rfl);(·exact rfl);(·exact ii));dsimp only [Nx]
    (repeat go_big_quiet_step (exact qZ));refine nZ ?_
    refine Z4 ?_;intro w4 B8;clear B7;go_wp2_with fail;refine Yn (W:=W) (h:=h) (l:=[Qe V st0 bb sb (txg+1) 40 false K' (C-70000),Xa,Zd b6 n'.cs 52,Zd wk (J8 st0 live (.slice sa' l.length scap') (.slice ra' V.ds.length rcap')) 188,Zd b1 #[.int .i64 id] 3,_,Zd b3 #[.func (.func fa) #[] ca] 194,R0]) B8 ?_;rintro w5 B9;clear B8;obtain⟨wc,hwc⟩:∃ wc,J8 st0 live (.slice sa' l.length scap') (.slice ra' V.ds.length rcap')=wc:=⟨_,rfl⟩
    obtain⟨HL,hHL⟩:∃ HL:List SP,HL=[Zd wk (J8 st0 live (.slice sa' l.length scap') (.slice ra' V.ds.length rcap')) 188,Zd b1 #[.int .i64 id] 3,Zd b6 n'.cs 52]:=⟨_,rfl⟩
    have in0:In (star HL) w5:=by
     rw [hHL];have BX:=Bt.oS (B9) [3,4,2,0,1,5,6,7];obtain⟨h0,p,hw⟩:=(BX.app [_,_,_]).mem (i:=0) rfl;exact⟨h0,p,hw⟩
    have i1:∀ x:JD (star HL),Zh x.w wk (J8 st0 live (.slice sa' l.length scap') (.slice ra' V.ds.length rcap')):=λ x=>ZU x.h (k:=0) (by rw [hHL];rfl)
    have i2:∀ x:JD (star HL),Zh x.w b1 #[.int .i64 id]:=λ x=>ZU x.h (k:=1) (by rw [hHL];rfl)
    have i3:∀ x:JD (star HL),Zh x.w b6 n'.cs:=λ x=>ZU x.h (k:=2) (by rw [hHL];rfl)
    have HHL:=Lib.hid hHL;clear hHL hwc;have GH:=Zq (star HL);haveI:Nonempty (JD (star HL)):=⟨⟨w5,in0⟩⟩
    refine ZZ (YT (star HL)) [5] (.q [1,2,3,4] (.f [7,8,9,10,11,12,13] (.c 0 (.x [5] (.q [6] (.x [14] (.q [15,16,18,19,20] (.c 17 (.x [21] (.q [22] .d)))))))))) GH (YT.of in0) (by kernel_rfl) (by kernel_rfl) ?_;simp only [Zk.runC,pick,List.getElem?_cons_zero,List.getElem?_cons_succ,List.cons_append,List.nil_append]
    (repeat(first|((with_reducible apply Zc);(·exact rfl);(·rintro _ ⟨gq,rfl⟩;exact ii);go_frame)|go_big_quiet_step (exact qZ)));refine nZ ?_
    (repeat(first|((with_reducible apply Zc);(·exact rfl);(·rintro _ ⟨gq,rfl⟩;exact ii);go_frame)|go_big_quiet_step (exact qZ)));refine nZ ?_
    (repeat(first|((with_reducible apply Zc);(·exact rfl);(·rintro _ ⟨gq,rfl⟩;exact ii);go_frame)|go_big_quiet_step (exact qZ)));refine nZ ?_
    rintro w6 hw6;have C1:Bt W h _ w6:=Ze hw6;haveI in1:In (star HL) w6:=by obtain⟨g,rfl⟩:=hw6;infer_instance
    clear hw6 B9;have AT:=Zg2 (V:=V) (st:=st0) (bb:=bb) (sb:=sb) (txg:=txg+1) (keep:=40) (meta_:=false) K' (C-70000);go_wp2_with fail;refine(Bt.call AT).mono ?_;rintro e w7 ⟨v,q,rfl,⟨st2,rfl,rfl⟩,C2⟩;clear C1 AT;dsimp only
    haveI in2:In (star HL) w7:=by
     rw [HHL.out];have BX:=Bt.oS (C2) [3,4,2,0,1,5,6,7];obtain⟨h0,p,hw⟩:=(BX.app [_,_,_]).mem (i:=0) rfl;exact⟨h0,p,hw⟩
    have T2:=Qn (V:=V) (st:=st2) (bb:=bb) (sb:=sb) (txg:=txg+1) (keep:=40) (meta_:=true) (by omega) (by omega);have P2:=Zi6 T2 K' (C-70000) (Hdr.out.mono hK) id hid nf (by omega);go_wp2_with fail;dsimp only [Nx];refine⟨_,⟨Zq _,λ v hv=>hv⟩,λ _=>YT.of in2,?_⟩
    (repeat go_big_quiet_step (exact qZ));refine nZ ?_
    refine Z4 ?_;intro w8 C3;clear C2 in1 in2;go_wp2_with fail;refine(Bt.call P2).mono ?_;rintro e w9 ⟨v,q,rfl,hR,C4⟩;clear C3;dsimp only;rcases hR with ⟨e,he,rfl,rfl⟩|⟨live',K2,rfl,rfl,hK2,dr2⟩
    ·go_wp2_with fail;dsimp only [Nx];refine⟨_,⟨Zq _,λ v hv=>hv⟩,λ h=>absurd h (by decide),?_⟩
     (repeat(first|((with_reducible apply Zc);(·exact rfl);(·rintro _ ⟨gq,rfl⟩;exact ii);go_frame)|go_big_quiet_step (exact qZ)));refine nZ ?_
     (repeat(first|((with_reducible apply Zc);(·exact rfl);(·rintro _ ⟨gq,rfl⟩;exact ii);go_frame)|go_big_quiet_step (exact qZ)));refine nZ ?_
     refine Z4 ?_;intro w10 C5;clear C4;go_wp2_with((with_reducible apply Zb);(·exact rfl);(·exact rfl);(·exact ii));dsimp only [Nx];refine⟨_,⟨Zq _,λ v hv=>hv⟩,λ h=>absurd h (by decide),?_⟩
     (repeat go_big_quiet_step (exact qZ));refine nZ ?_
     rintro w11 hw11;have C6:Bt W h [_,_,_,Zd wk (J8 st0 Nd.none (.slice sa' l.length scap') (.slice ra' V.ds.length rcap')) _,_,_,_,_] w11:=Ze hw11;clear hw11 C5;go_wp2_with fail;go_ret
     (first|apply Zv|apply Zu)
     have C7:=Bt.oS (C6) [2,3,4,5,6,1,7,0];exact⟨.inl ⟨e,Nd.none,l,K',he,rfl,hK,rfl⟩,FIN _ _ st2 true Nd.none K' (C-70000-70000) (by omega) C7⟩
    ·have Dr2:=Lib.hid dr2;clear dr2;go_wp2_with fail;dsimp only [Nx];refine⟨_,⟨Zq _,λ v hv=>hv⟩,λ h=>absurd h (by decide),?_⟩
     (repeat(first|((with_reducible apply Zc);(·exact rfl);(·rintro _ ⟨gq,rfl⟩;exact ii);go_frame)|go_big_quiet_step (exact qZ)));refine nZ ?_
     (repeat(first|((with_reducible apply Zc);(·exact rfl);(·rintro _ ⟨gq,rfl⟩;exact ii);go_frame)|go_big_quiet_step (exact qZ)));refine nZ ?_
     refine Z4 ?_;intro w10 C5;clear C4;go_wp2_with((with_reducible apply Zb);(·exact rfl);(·exact rfl);(·exact ii));dsimp only [Nx];refine⟨_,⟨Zq _,λ v hv=>hv⟩,λ h=>absurd h (by decide),?_⟩
     (repeat go_big_quiet_step (exact qZ));refine nZ ?_
     rintro w11 hw11;have C6:Bt W h [_,_,_,Zd wk (J8 st0 live' (.slice sa' l.length scap') (.slice ra' V.ds.length rcap')) _,_,_,_,_] w11:=Ze hw11;clear hw11 C5;go_wp2_with fail;go_ret
     (first|apply Zv|apply Zu)
     have C7:=Bt.oS (C6) [2,3,4,5,6,1,7,0];have hKK:=hK.trans hK2;refine⟨.inr ⟨live',l,K2,rfl,hKK,⟨?_,sn.mono hKK (Nat.le_refl _)⟩,⟨rfl,?_,n',t',t0,Ht1.out,Ht2.out,HQ.out,HO.out.mono hK2,Dr2.out⟩,rfl⟩,FIN _ _ st2 true live' K2 (C-70000-70000) (by omega) C7⟩
     ·obtain⟨g,o,_⟩:=Dr2.out;exact⟨g,o⟩
     ·first|exact Hsm.out|(intro _;exact Hsm.out)|(intro h;cases h)|trivial
end
theorem ZB{W w:World}{h:Hl}{l:List SP}{f:FuncId}{args:Array Value}{R:Ending->World->Prop}(B:Bt W h l w)(k:∀ w',Bt W h l w'->Calls Tryz.prog f args w' R):Calls Tryz.prog f args w R:=k w B
theorem Yz{W w:World}{h:Hl}{l:List SP}{p:SP}(B:Bt W h l w)(k:∀ w',Bt W h l w'->Zg W h p w'):Zg W h p w:=k w B
structure Wd where
 live:Yt
 snaps:List (Int × Yt)
structure qF(K:KS)(txg:Nat)(live:Nd)(l:List Sn)(wd:Wd):Prop where
 live:jX K live wd.live
 ids:l.map Sn.id=wd.snaps.map Prod.fst
 dirs:∀(k:Nat)(x:Sn)(y:Int × Yt),l[k]?=some x->wd.snaps[k]?=some y->jX K x.dir y.2
 sn:Um K txg l
def Xn(V:VD)(pb txg:Nat)(root:Nd)(C:Nat)(K0:KS)(wd:Wd):SP:=λ h=>∃ K live l,(K0.le K/\qF K txg live l wd)/\Kh V pb txg root live l K C h
theorem jX.ob{K:KS}{n:Nd}{T:Yt}(d:jX K n T):∃ g,Ob K n g:=by
 obtain⟨D,⟨g,o,_⟩,_⟩:=d;exact⟨g,o⟩
theorem qF.mono{K K':KS}{txg txg':Nat}{live:Nd}{l:List Sn}{wd:Wd}(w:qF K txg live l wd)(h:K.le K')(ht:txg<=txg'):qF K' txg' live l wd :=
 ⟨w.live.mono h,w.ids,λ k x y h1 h2=>(w.dirs k x y h1 h2).mono h,w.sn.mono h ht⟩
section
variable{V:VD}{pb txg:Nat}{root:Nd}{C:Nat}{K0:KS}{wd:Wd}
theorem Kh.less{live:Nd}{l:List Sn}{K:KS}{C':Nat}{h:Hl}(hc:C'<=C)(p:Kh V pb txg root live l K C h):Kh V pb txg root live l K C' h:=by
 obtain⟨sa,scap,ra,rcap,ob,owk,ow,bk,sb,N,F,ms,es,⟨ok,hC⟩,pv,s⟩:=p;exact⟨sa,scap,ra,rcap,ob,owk,ow,bk,sb,N,F,ms,es,⟨ok.less hc rfl,by omega⟩,pv,s⟩
theorem Xn.less{C':Nat}{h:Hl}(hc:C'<=C)(p:Xn V pb txg root C K0 wd h):Xn V pb txg root C' K0 wd h:=by
 obtain⟨K,live,l,e,p⟩:=p;exact⟨K,live,l,e,p.less hc⟩
theorem Bt.pos{W w:World}{h:Hl}{L:List SP}(B:Bt W h (Xn V pb txg root C K0 wd::L) w):∃ K live l,(K0.le K/\qF K txg live l wd)/\Bt W h (Kh V pb txg root live l K C::L) w:=by
 obtain⟨K,B⟩:=B.ex;obtain⟨live,B⟩:=B.ex;obtain⟨l,B⟩:=B.ex;obtain⟨e,B⟩:=B.pure;exact⟨K,live,l,e,B⟩
def ZoY(V:VD)(pb txg:Nat)(root:Nd)(C:Nat)(K0:KS)(wd:Wd)(X:SP)(id:Int)(must:Bool)(Q:ByteArray->ByteArray->Prop)(v:Value)(q:SP):Prop :=
 (∃ e:Int,e≠0/\v=.int .i64 e/\q=star [Xn V pb txg root C K0 wd,X]) \/
 ∃(k:Nat)(t':ByteArray),v=.int .i64 0/\(id=k/\k<32)/\(must=true->(wd.live k).isSome=true)/\Q ((wd.live k).getD ⟨#[]⟩) t'/\q=star [Xn V pb txg root C K0 { wd with live:=Yw wd.live k (some t') },X]
theorem Zdo(ht:txg+1<=4294967295)(id:Int)(must:Bool)(fa:FuncId)(qa:XB Tryz.prog fa=true)(ca:Array Value)(Xa:SP)(Q:ByteArray->ByteArray->Prop)(hC:140000<=C)
  (A:∀(K:KS)(st bb:Nat)(sb:ZO)(n:Nd)(t:ByteArray),yG K n t->Tq fa (#[Jv st,.agg n.cs]++ca) (star [Qe V st bb sb (txg+1) 40 false K C,Xa]) (ObR (Qe V st bb sb (txg+1) 40 false) K (C-70000) Xa λ n' K'=>∃ t',Q t t'/\yG K' n' t')) :
  Tq 95 #[pV pb,.int .i64 id,.bool must,.func (.func fa) #[] ca] (star [Xn V pb txg root C K0 wd,Xa]) (ZoY V pb txg root (C-140000) K0 wd Xa id must Q):=by
 refine Tq.of λ W h B0=>?_
 obtain⟨K,live,l,⟨hK0,ok⟩,B⟩:=B0.flat.pos;clear B0;have M:∀ w,[In (Kh V pb txg root live l K C) w]->Fn 98 #[pV pb,.int .i64 id] w (.int .i64 (Vt id)):=λ w i=>Vo id w i
 by_cases hid:0<=id/\id<32
 ·rw [show Vt id=0 from if_pos hid]at M;obtain⟨h1,h2⟩:=hid;obtain⟨k,rfl⟩:=Int.eq_ofNat_of_zero_le h1;have hk:k<32:=by omega
  obtain⟨D,dr,hD⟩:=ok.live;have CH:=λ b1 b2 b3=>Ki (V:=V) (pb:=pb) (root:=root) ht ok.sn.len 159 (by kernel_rfl) #[pV b1,pV b2,pV b3] (ZiA ht dr hD ok.sn k hk must b1 b2 b3 fa qa ca Xa Q hC (A K))
  have Ok:=Lib.hid ok;have HD:=Lib.hid hD;clear ok hD dr A
  go_in
  go_wp2_with(with_reducible refine Fn.go λ g=>?_);refine ZB (W:=W) (h:=h) (l:=[_,_,_,Kh V pb txg root live l K C,Xa]) ii ?_;rintro w1 B1;have B2:=Bt.oS (B1) [3,2,1,0,4];have B3:=Bt.rot [_] [_,_,_,_] B2;haveI B4:=(B3.perm (List.Perm.swap ..)).app [_,_];clear B B1 B2 B3;refine(Bt.call (CH _ _ _)).mono ?_;rintro e w2 ⟨v,q,rfl,hR,B5⟩;clear B4 CH;dsimp only;rcases hR with ⟨e,he,rfl,rfl⟩|⟨live',l',K',rfl,hK,⟨rfl,hm,n',t',t0,ht1,ht2,hQ,o',dr'⟩,rfl⟩
  ·go_wp2_with fail;go_ret
   (first|apply Zv|apply Zu)
   have B6:=Bt.oS (B5.flat) [1,0];have B7:=Bt.oS (B6.flat) [4,3,0,1,2];exact⟨.inl ⟨e,he,rfl,rfl⟩,((B7.head λ h q=>⟨K,live,l,⟨hK0,Ok.out⟩,q⟩).app [_,_]).fin_at 0 rfl⟩
  ·have Ht1:=Lib.hid ht1;have Ht2:=Lib.hid ht2;have HQ:=Lib.hid hQ;have HO:=Lib.hid o';have HR:=Lib.hid dr';have HM:=Lib.hid hm;clear ht1 ht2 hQ o' dr' hm;go_wp2_with fail;go_ret
   (first|apply Zv|apply Zu)
   have B6:=Bt.oS (B5.flat) [1,0];have B7:=Bt.oS (B6.flat) [4,3,0,1,2]
   have e0:t0=(wd.live k).getD ⟨#[]⟩:=by
    cases e:wd.live k with
    |none=>exact Ht2.out e
    |some t=>exact Ht1.out t e
   have wo:qF K' txg live' l' { wd with live:=Yw wd.live k (some t') }:=by
    refine⟨⟨_,HR.out,λ id hid=>?_⟩,Ok.out.ids,λ k x y h1 h2=>(Ok.out.dirs k x y h1 h2).mono hK,Ok.out.sn.mono hK (Nat.le_refl _)⟩;simp only [Yw]
    by_cases hik:id=k
    ·rw [if_pos hik,if_pos hik];exact⟨λ m hm=>⟨t',rfl,by cases hm;exact HO.out⟩,λ h=>by cases h⟩
    ·rw [if_neg hik,if_neg hik];obtain⟨h1,h2⟩:=HD.out id hid;exact⟨λ m hm=>by obtain⟨t,h3,h4⟩:=h1 m hm;exact⟨t,h3,h4.mono hK⟩,h2⟩
   refine⟨.inr ⟨k,t',rfl,⟨rfl,hk⟩,λ h=>?_,by rw [<-e0];exact HQ.out,rfl⟩,((B7.head λ h q=>⟨K',live',l',⟨hK0.trans hK,wo⟩,q⟩).app [_,_]).fin_at 0 rfl⟩;have h3:=HM.out h;cases hd:D k with
   |none=>rw [hd]at h3;cases h3
   |some m =>
    obtain⟨t,h4,_⟩:=(HD.out k hk).1 m hd;rw [h4];rfl
 ·have e:Vt id=1:=if_neg hid;rw [e]at M;clear A
  go_in
  go_wp2_with(with_reducible refine Fn.go λ g=>?_);go_ret
  (first|apply Zv|apply Zu)
  refine⟨.inl ⟨1,by decide,rfl,rfl⟩,Yz (W:=W) (h:=h) (l:=[_,_,_,Kh V pb txg root live l K C,Xa]) ii λ w9 B1=>?_⟩;have B2:=Bt.oS (B1) [3,4,0,1,2];exact((B2.head λ h q=>⟨K,live,l,⟨hK0,ok⟩,q.less (by omega)⟩).app [_,_]).fin_at 0 rfl
end
def OpR(V:VD)(pb txg:Nat)(root:Nd)(C:Nat)(K0:KS)(wd:Wd)(P:Wd->Prop)(v:Value)(q:SP):Prop :=
 (∃ e:Int,e≠0/\v=.int .i64 e/\q=Xn V pb txg root C K0 wd)\/∃ wd',v=.int .i64 0/\P wd'/\q=Xn V pb txg root C K0 wd'
def WrO(id off:Int)(s:ByteArray)(wd wd':Wd):Prop:=∃(k o:Nat),(id=k/\k<32)/\(off=o/\o+s.size<=16384)/\wd'={ wd with live:=Yw wd.live k (some (qE ((wd.live k).getD ⟨#[]⟩) o s)) }
def CuO(id off:Int)(wd wd':Wd):Prop:=∃(k o:Nat),(id=k/\k<32)/\(off=o/\o<=16384/\(wd.live k).isSome=true)/\wd'={ wd with live:=Yw wd.live k (some (yT ((wd.live k).getD ⟨#[]⟩) o)) }
section
variable{V:VD}{pb txg:Nat}{root:Nd}{C:Nat}{K0:KS}{wd:Wd}
theorem Zix(ht:txg+1<=4294967295)(hC:140000<=C)(off:Int)(s:ByteArray)(hs:s.size<=16384)(b1 b2:Nat)(K:KS)(st bb:Nat)(sb:ZO)(n:Nd)(t:ByteArray)(ot:yG K n t) :
  Tq 108 (#[Jv st,.agg n.cs]++#[pV b1,pV b2]) (star [Qe V st bb sb (txg+1) 40 false K C,star [Zd b1 #[.int .i64 off] 3,Zd b2 #[.string s] 9]])
   (ObR (Qe V st bb sb (txg+1) 40 false) K (C-70000) (star [Zd b1 #[.int .i64 off] 3,Zd b2 #[.string s] 9]) λ n' K'=>∃ t',(∃ o:Nat,off=o/\o+s.size<=16384/\t'=qE t o s)/\yG K' n' t'):=by
 have T:=Qn (V:=V) (st:=st) (bb:=bb) (sb:=sb) (txg:=txg+1) (keep:=40) (meta_:=false) (by omega) (by omega);have P:=Zgv T K C ot off s hs (by omega);refine Tq.of λ W h B0=>?_
 have B1:=Bt.oS (B0.flat) [1,0];have B:=B1.flat;clear B0 B1;simp only [List.cons_append,List.nil_append]at B;show Calls Tryz.prog 108 #[Jv st,.agg n.cs,pV b1,pV b2] W _
 go_in
 go_wp2_with((with_reducible apply Za);(·exact rfl);(·exact ii));refine(Bt.call P).mono ?_;rintro e w1 ⟨v,q,rfl,hR,B1⟩;dsimp only;rcases hR with ⟨e,he,rfl,rfl⟩|⟨n',K',rfl,rfl,hK,o,h1,h2,h3⟩
 ·go_wp2_with((with_reducible apply Zb);(·exact rfl);(·exact rfl);(·exact ii))
  (refine bodyPost_ret (YR rfl _ _ _ _ rfl ii) rfl ?_)
  (first|apply Zv|apply Zu)
  refine⟨.inl ⟨e,he,rfl,rfl⟩,Yz (W:=W) (h:=h) (l:=[_,_,Zd b1 _ _,Zd b2 _ _,Qe V st bb sb (txg+1) 40 false K (C-70000)]) ii λ w9 B9=>?_⟩;have B2:=Bt.oS (B9) [2,3,4,0,1];have B3:=Bt.oS (B2.app [_,_]) [1,0,2,3];exact(B3.app [_,_]).fin_at 0 rfl
 ·have H3:=Lib.hid h3;have H1:=Lib.hid h1;clear h3 h1;go_wp2_with((with_reducible apply Zb);(·exact rfl);(·exact rfl);(·exact ii))
  (refine bodyPost_ret (YR rfl _ _ _ _ rfl ii) rfl ?_)
  (first|apply Zv|apply Zu)
  refine⟨.inr ⟨n',K',rfl,hK,⟨_,⟨o,H1.out,h2,rfl⟩,H3.out⟩,rfl⟩,Yz (W:=W) (h:=h) (l:=[_,_,Zd b1 _ _,Zd b2 _ _,Qe V st bb sb (txg+1) 40 false K' (C-70000)]) ii λ w9 B9=>?_⟩;have B2:=Bt.oS (B9) [2,3,4,0,1];have B3:=Bt.oS (B2.app [_,_]) [1,0,2,3];exact(B3.app [_,_]).fin_at 0 rfl
theorem Zfn(ht:txg+1<=4294967295)(id off:Int)(s:ByteArray)(hs:s.size<=16384)(hC:140000<=C) :
  Tq 59 #[pV pb,.int .i64 id,.int .i64 off,.string s] (Xn V pb txg root C K0 wd) (OpR V pb txg root (C-140000) K0 wd (WrO id off s wd)):=by
 have P:=λ b1 b2=>Zdo (V:=V) (pb:=pb) (root:=root) (C:=C) (K0:=K0) (wd:=wd) ht id false 108 (by kernel_rfl) #[pV b1,pV b2] _ (λ t t'=>∃ o:Nat,off=o/\o+s.size<=16384/\t'=qE t o s) hC (Zix ht hC off s hs b1 b2)
 refine Tq.of λ W h B=>?_
 go_in
 go_wp2_with fail;refine ZB (W:=W) (h:=h) (l:=[Zd _ #[.string s] _,Zd _ #[.int .i64 off] _,Xn V pb txg root C K0 wd]) ii ?_;rintro w1 B1;have B2:=Bt.oS (B1) [1,0,2];have B3:=Bt.oS (B2.app [_,_]) [1,0];haveI B4:=B3.app [_,_];clear B B1 B2 B3;refine(Bt.call (P _ _)).mono ?_;rintro e w2 ⟨v,q,rfl,hR,B5⟩;clear B4 P;dsimp only;rcases hR with ⟨e,he,rfl,rfl⟩|⟨k,t',rfl,hk,_,⟨o,h1,h2,rfl⟩,rfl⟩
 ·go_wp2_with fail;go_ret
  (first|apply Zv|apply Zu)
  exact⟨.inl ⟨e,he,rfl,rfl⟩,B5.flat.fin_at 0 rfl⟩
 ·have H1:=Lib.hid h1;have Hk:=Lib.hid hk;clear h1 hk;go_wp2_with fail;go_ret
  (first|apply Zv|apply Zu)
  exact⟨.inr ⟨_,rfl,⟨k,o,Hk.out,⟨H1.out,h2⟩,rfl⟩,rfl⟩,B5.flat.fin_at 0 rfl⟩
theorem Zj0(ht:txg+1<=4294967295)(hC:140000<=C)(off:Int)(b1:Nat)(K:KS)(st bb:Nat)(sb:ZO)(n:Nd)(t:ByteArray)(ot:yG K n t) :
  Tq 96 (#[Jv st,.agg n.cs]++#[pV b1]) (star [Qe V st bb sb (txg+1) 40 false K C,Zd b1 #[.int .i64 off] 3])
   (ObR (Qe V st bb sb (txg+1) 40 false) K (C-70000) (Zd b1 #[.int .i64 off] 3) λ n' K'=>∃ t',(∃ o:Nat,off=o/\o<=16384/\t'=yT t o)/\yG K' n' t'):=by
 have T:=Qn (V:=V) (st:=st) (bb:=bb) (sb:=sb) (txg:=txg+1) (keep:=40) (meta_:=false) (by omega) (by omega);have P:=ZkL T K C ot off (by omega);have LS:∀ K' h,Qe V st bb sb (txg+1) 40 false K' (C-30) h->Qe V st bb sb (txg+1) 40 false K' (C-70000) h:=λ K' h q=>T.less K' (C-30) (C-70000) (by omega) h q
 refine Tq.of λ W h B0=>?_
 have B:=Bt.oS (B0.flat) [1,0];clear B0;show Calls Tryz.prog 96 #[Jv st,.agg n.cs,pV b1] W _
 go_in
 go_wp2_with((with_reducible apply Za);(·exact rfl);(·exact ii));refine(Bt.call P).mono ?_;rintro e w1 ⟨v,q,rfl,hR,B1⟩;dsimp only;rcases hR with ⟨e,he,rfl,rfl⟩|⟨n',K',rfl,rfl,hK,o,h1,h2,h3⟩
 ·go_wp2_with((with_reducible apply Zb);(·exact rfl);(·exact rfl);(·exact ii))
  (refine bodyPost_ret (YR rfl _ _ _ _ rfl ii) rfl ?_)
  (first|apply Zv|apply Zu)
  refine⟨.inl ⟨e,he,rfl,rfl⟩,Yz (W:=W) (h:=h) (l:=[_,_,Zd b1 _ _,Qe V st bb sb (txg+1) 40 false K (C-30)]) ii λ w9 B9=>?_⟩;have B3:=Bt.oS (B9) [3,2,0,1];exact((B3.head λ h q=>LS _ h q).app [_,_]).fin_at 0 rfl
 ·have H3:=Lib.hid h3;have H1:=Lib.hid h1;clear h3 h1;go_wp2_with((with_reducible apply Zb);(·exact rfl);(·exact rfl);(·exact ii))
  (refine bodyPost_ret (YR rfl _ _ _ _ rfl ii) rfl ?_)
  (first|apply Zv|apply Zu)
  refine⟨.inr ⟨n',K',rfl,hK,⟨_,⟨o,H1.out,h2,rfl⟩,H3.out⟩,rfl⟩,Yz (W:=W) (h:=h) (l:=[_,_,Zd b1 _ _,Qe V st bb sb (txg+1) 40 false K' (C-30)]) ii λ w9 B9=>?_⟩;have B3:=Bt.oS (B9) [3,2,0,1];exact((B3.head λ h q=>LS _ h q).app [_,_]).fin_at 0 rfl
theorem Zad(ht:txg+1<=4294967295)(id off:Int)(hC:140000<=C) :
  Tq 54 #[pV pb,.int .i64 id,.int .i64 off] (Xn V pb txg root C K0 wd) (OpR V pb txg root (C-140000) K0 wd (CuO id off wd)):=by
 have P:=λ b1=>Zdo (V:=V) (pb:=pb) (root:=root) (C:=C) (K0:=K0) (wd:=wd) ht id true 96 (by kernel_rfl) #[pV b1] _ (λ t t'=>∃ o:Nat,off=o/\o<=16384/\t'=yT t o) hC (Zj0 ht hC off b1)
 refine Tq.of λ W h B=>?_
 go_in
 go_wp2_with fail;refine ZB (W:=W) (h:=h) (l:=[Zd _ #[.int .i64 off] _,Xn V pb txg root C K0 wd]) ii ?_;rintro w1 B1;have B3:=Bt.oS (B1) [1,0];haveI B4:=B3.app [_,_];clear B B1 B3;refine(Bt.call (P _)).mono ?_;rintro e w2 ⟨v,q,rfl,hR,B5⟩;clear B4 P;dsimp only;rcases hR with ⟨e,he,rfl,rfl⟩|⟨k,t',rfl,hk,h4,⟨o,h1,h2,rfl⟩,rfl⟩
 ·go_wp2_with fail;go_ret
  (first|apply Zv|apply Zu)
  exact⟨.inl ⟨e,he,rfl,rfl⟩,B5.flat.fin_at 0 rfl⟩
 ·have H1:=Lib.hid h1;have Hk:=Lib.hid hk;have H4:=Lib.hid h4;clear h1 hk h4;go_wp2_with fail;go_ret
  (first|apply Zv|apply Zu)
  exact⟨.inr ⟨_,rfl,⟨k,o,Hk.out,⟨H1.out,h2,H4.out (by first|rfl|trivial)⟩,rfl⟩,rfl⟩,B5.flat.fin_at 0 rfl⟩
end
end Go.Proofs.YtlfjdjndhcmliaaGreatDoor
