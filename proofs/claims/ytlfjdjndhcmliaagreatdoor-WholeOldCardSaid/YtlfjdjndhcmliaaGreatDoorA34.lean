/- WholeOld, part 34. -/
import Derived.Test.YtlfjdjndhcmliaaGreatDoorA33
set_option maxRecDepth 100000
set_option maxHeartbeats 4000000
set_option linter.all false
namespace Go.Proofs.YtlfjdjndhcmliaaGreatDoor
open Go.RowKit Go.Sort
section
variable{V:VD}{pb txg:Nat}{root live:Nd}{l:List Sn}{K:KS}{C:Nat}
theorem Zgm(ht:txg+1<=4294967295){D:Nat->Option Nd}(dr:Dr K live D)(sn:Um K txg l)(id:Nat)(hid:id<32)(b1:Nat)(hC:140000<=C)(wk:Nat) :
  Tq 100 (#[pV wk]++#[pV b1]) (star [yL V pb txg root live l K wk true live l K C,Zd b1 #[.int .i64 id] 3])
   (ZhP V pb txg root live l K wk (C-140000) (Zd b1 #[.int .i64 id] 3) λ live' l' K'=>l'=l/\(D id).isSome=true/\Dr K' live' (Yw D id none)):=by
 refine Tq.of λ W h B0=>?_
 have B1:=Bt.oS (B0.flat) [0,1];obtain⟨sa,scap,ra,rcap,bb,wb,sb,ms,es,st0,st,mt,sa',scap',ra',rcap',⟨ss,us,hC9,hf⟩,B3⟩:=B1.wk;obtain⟨rfl,rfl⟩:=hf rfl;clear hf B0 B1;have B4:=Bt.oS (B3) [0,1,2,3,5,6,4,8,7];have B:=B4.app [_,_,_,_,_,_];clear B3 B4;obtain⟨R0,hR0⟩:∃ R0,star [Zd pb (X7 V txg root live (.slice sa l.length scap) (.slice ra V.ds.length rcap) (pV bb) (pV wk) (pV wb)) 82,Zw 125 15 sa l.length scap (Ye l),Zw 92 2 ra V.ds.length rcap (YU V.ds.length),ZV wb sb V.secs ms es,Zw 125 15 sa' l.length scap' (Ye l),Zw 92 2 ra' V.ds.length rcap' (YU V.ds.length)]=R0:=⟨_,rfl⟩
 rw [hR0]at B;have HR0:=Lib.hid hR0;clear hR0
 have FIN:∀(w9:World)(st:Nat)(mt:Bool)(live':Nd)(K':KS)(c:Nat),C-140000<=c->Bt W h [Zd wk (J8 st0 live' (.slice sa' l.length scap') (.slice ra' V.ds.length rcap')) 188,Zd b1 #[.int .i64 id] 3,R0,Qe V st bb sb (txg+1) 40 mt K' c] w9 ->
   Zg W h (star [yL V pb txg root live l K wk false live' l K' (C-140000),Zd b1 #[.int .i64 id] 3]) w9:=λ w9 st mt live' K' c hc B=>by
  have T9:=Qn (V:=V) (st:=st) (bb:=bb) (sb:=sb) (txg:=txg+1) (keep:=40) (meta_:=mt) (by omega) (by omega);have B2:=Bt.oS (B) [2,3,0,1];rw [<-HR0.out]at B2;have B3:=B2.flat;have B4:=Bt.oS (B3) [6,0,1,2,3,4,5,7,8];have B5:=B4.head λ h q=>T9.less K' c (C-140000) hc h q
  have B6:=Bt.oS (B5) [1,2,3,4,7,5,6,0,8];have B7:=Bt.wk_shut (wk:=wk) (fresh:=false) (st0:=st0) (st:=st) (mt:=mt) (es:=es) (ra':=ra') (rcap':=rcap') (sa':=sa') (scap':=scap') (sa:=sa) (scap:=scap) (ra:=ra) (rcap:=rcap) (bb:=bb) (wb:=wb) (ms:=ms) (sb:=sb) ⟨ss,us,by omega,λ h=>by cases h⟩ B6;exact(B7.app [_,_]).fin_at 0 rfl
 have AT:=Zg2 (V:=V) (st:=st0) (bb:=bb) (sb:=sb) (txg:=txg+1) (keep:=40) (meta_:=false) K C
 have P2:∀ st2,Tq 101 #[Jv st2,.agg live.cs,.int .i64 id] (Qe V st2 bb sb (txg+1) 40 true K C) λ v q=>∃(n':Nd)(e:Int)(K':KS),v=.tuple #[.agg n'.cs,.int .i64 e]/\q=Qe V st2 bb sb (txg+1) 40 true K' (C-70000)/\K.le K'/\(e=0->(D id).isSome=true/\Dr K' n' (Yw D id none)):=λ st2=>by
  have T2:=Qn (V:=V) (st:=st2) (bb:=bb) (sb:=sb) (txg:=txg+1) (keep:=40) (meta_:=true) (by omega) (by omega);refine(Zhv T2 K C dr id hid (by omega)).mono λ v q hq=>?_
  rcases hq with ⟨_,rfl,rfl⟩|⟨h1,⟨e,he,rfl,rfl⟩|⟨p,K',rfl,rfl,hK,h2⟩⟩
  ·exact⟨_,⟨Nd.none,7,K,rfl,rfl,KS.le.refl K,λ h=>by cases h⟩,λ h q=>T2.less _ _ _ (by omega) h q⟩
  ·exact⟨_,⟨Nd.none,e,K,rfl,rfl,KS.le.refl K,λ h=>absurd h he⟩,λ h q=>q⟩
  ·exact⟨_,⟨p,0,K',rfl,rfl,hK,λ _=>⟨h1,h2⟩⟩,λ h q=>q⟩
 clear ss us hC9;show Calls Tryz.prog 100 #[pV wk,pV b1] W _
 go_in
 go_upto_region 1 with fail
 go_cut [4,5] (λ pv ev wx=>∃(b4:Nat)(n':Nd)(e:Int)(K':KS)(st2:Nat),pv=pV b4/\ev=.int .i64 e/\(K.le K'/\(e=0->(D id).isSome=true/\Dr K' n' (Yw D id none)))/\Bt W h [Zd b4 n'.cs 52,Zd wk (J8 st0 live (.slice sa' l.length scap') (.slice ra' V.ds.length rcap')) 188,Zd b1 #[.int .i64 id] 3,R0,Qe V st2 bb sb (txg+1) 40 true K' (C-70000)] wx)
 case first =>
  obtain⟨HL,hHL⟩:∃ HL:List SP,HL=[Zd wk (J8 st0 live (.slice sa' l.length scap') (.slice ra' V.ds.length rcap')) 188,Zd b1 #[.int .i64 id] 3]:=⟨_,rfl⟩
  have in0:In (star HL) W:=by
   rw [hHL];have BX:=Bt.oS (B) [1,2,0,3];obtain⟨h0,p,hw⟩:=(BX.app [_,_]).mem (i:=0) rfl;exact⟨h0,p,hw⟩
  have i1:∀ x:JD (star HL),Zh x.w wk (J8 st0 live (.slice sa' l.length scap') (.slice ra' V.ds.length rcap')):=λ x=>ZU x.h (k:=0) (by rw [hHL];rfl)
  have i2:∀ x:JD (star HL),Zh x.w b1 #[.int .i64 id]:=λ x=>ZU x.h (k:=1) (by rw [hHL];rfl)
  have HHL:=Lib.hid hHL;clear hHL;have GH:=Zq (star HL);haveI:Nonempty (JD (star HL)):=⟨⟨W,in0⟩⟩
  refine ZZ (YT (star HL)) [4,16] (.f [0,1,2,3,6,7,8,9,10,11] (.y 4 16 (.f [5] (.y 12 16 (.c 13 (.c 14 (.c 15 (.x [16] (.x [17] (.q [18] .d)))))) (.x [12] (.q [13,14] (.c 15 (.x [17] (.q [18] .d))))))) (.x [4] (.q [5] (.x [12] (.q [13,14] (.c 15 (.x [17] (.q [18] .d))))))))) GH (YT.of in0) (by kernel_rfl) (by kernel_rfl) ?_;simp only [Zk.runC,pick,List.getElem?_cons_zero,List.getElem?_cons_succ,List.cons_append,List.nil_append]
  (repeat(first|((with_reducible apply Zc);(·exact rfl);(·rintro _ ⟨gq,rfl⟩;exact ii);go_frame)|go_big_quiet_step (exact qZ)));refine nZ ?_
  refine⟨?_,?_⟩
  ·rintro w1 hw1;have C1:Bt W h _ w1:=Ze hw1;clear hw1;go_wp2_with fail;refine(Bt.call AT).mono ?_;rintro e w2 ⟨v,q,rfl,⟨st2,rfl,rfl⟩,C2⟩;clear C1;dsimp only
   have in2:In (star HL) w2:=by
    rw [HHL.out];have BX:=Bt.oS (C2) [1,2,0,3];obtain⟨h0,p,hw⟩:=(BX.app [_,_]).mem (i:=0) rfl;exact⟨h0,p,hw⟩
   go_wp2_with fail;dsimp only [Nx];refine⟨_,⟨Zq _,λ v hv=>hv⟩,λ _=>YT.of in2,?_⟩
   (repeat(first|((with_reducible apply Zc);(·exact rfl);(·rintro _ ⟨gq,rfl⟩;exact ii);go_frame)|go_big_quiet_step (exact qZ)));refine nZ ?_
   refine⟨?_,?_⟩
   ·refine Z4 ?_;intro w3 C3;clear C2;go_wp2_with fail;refine(Bt.call (P2 st2)).mono ?_;rintro e w4 ⟨v,q,rfl,⟨n',e,K',rfl,rfl,hK⟩,C4⟩;clear C3;dsimp only;have HK:=Lib.hid hK;clear hK;go_wp2_with fail;dsimp only [Nx];refine⟨_,⟨Zq _,λ v hv=>hv⟩,λ h=>absurd h (by decide),?_⟩
    (repeat(first|((with_reducible apply Zc);(·exact rfl);(·rintro _ ⟨gq,rfl⟩;exact ii);go_frame)|go_big_quiet_step (exact qZ)));refine nZ ?_
    (repeat(first|((with_reducible apply Zc);(·exact rfl);(·rintro _ ⟨gq,rfl⟩;exact ii);go_frame)|go_big_quiet_step (exact qZ)));refine nZ ?_
    (repeat(first|((with_reducible apply Zc);(·exact rfl);(·rintro _ ⟨gq,rfl⟩;exact ii);go_frame)|go_big_quiet_step (exact qZ)));refine nZ ?_
    refine Z4 ?_;intro w5 C5;clear C4;go_wp2_with fail;dsimp only [Nx]
    have in5:In (star HL) w5:=by
     rw [HHL.out];have BX:=Bt.oS (C5) [1,2,0,3];obtain⟨h0,p,hw⟩:=(BX.app [_,_]).mem (i:=0) rfl;exact⟨h0,p,hw⟩
    refine⟨_,⟨Zq _,λ v hv=>hv⟩,λ _=>YT.of ii,?_⟩;refine Z4 ?_;intro w6 C6;clear C5;go_wp2_with((with_reducible apply Zb);(·exact rfl);(·exact rfl);(·exact ii));dsimp only [Nx];refine⟨_,⟨Zq _,λ v hv=>hv⟩,λ h=>absurd h (by decide),?_⟩
    (repeat go_big_quiet_step (exact qZ));refine nZ ?_
    rintro w7 hw7;have C7:Bt W h [_,R0,_,_,_] w7:=Ze hw7;clear hw7 C6;go_wp2_with fail
    go_meet
    have C8:=Bt.oS (C7) [0,2,3,1,4];exact⟨_,n',e,K',st2,rfl,rfl,HK.out,C8⟩
   ·rintro w3 hw3;have C3:Bt W h _ w3:=Ze hw3;have in3:In (star HL) w3:=by obtain⟨g,rfl⟩:=hw3;infer_instance
    clear hw3 C2;go_wp2_with fail;dsimp only [Nx];refine⟨_,⟨Zq _,λ v hv=>hv⟩,λ _=>YT.of ii,?_⟩;refine Z4 ?_;intro w4 C4;clear C3;go_wp2_with fail;refine(Bt.call (P2 st2)).mono ?_;rintro e w5 ⟨v,q,rfl,⟨n',e,K',rfl,rfl,hK⟩,C5⟩;clear C4;dsimp only;have HK:=Lib.hid hK;clear hK;go_wp2_with fail;dsimp only [Nx];refine⟨_,⟨Zq _,λ v hv=>hv⟩,λ h=>absurd h (by decide),?_⟩
    (repeat(first|((with_reducible apply Zc);(·exact rfl);(·rintro _ ⟨gq,rfl⟩;exact ii);go_frame)|go_big_quiet_step (exact qZ)));refine nZ ?_
    (repeat(first|((with_reducible apply Zc);(·exact rfl);(·rintro _ ⟨gq,rfl⟩;exact ii);go_frame)|go_big_quiet_step (exact qZ)));refine nZ ?_
    refine Z4 ?_;intro w6 C6;clear C5;go_wp2_with((with_reducible apply Zb);(·exact rfl);(·exact rfl);(·exact ii));dsimp only [Nx];refine⟨_,⟨Zq _,λ v hv=>hv⟩,λ h=>absurd h (by decide),?_⟩
    (repeat go_big_quiet_step (exact qZ));refine nZ ?_
    rintro w7 hw7;have C7:Bt W h [_,R0,_,_,_] w7:=Ze hw7;clear hw7 C6;go_wp2_with fail
    go_meet
    have C8:=Bt.oS (C7) [0,2,3,1,4];exact⟨_,n',e,K',st2,rfl,rfl,HK.out,C8⟩
  ·rintro w1 hw1;have C1:Bt W h _ w1:=Ze hw1;have in1:In (star HL) w1:=by obtain⟨g,rfl⟩:=hw1;infer_instance
   clear hw1;go_wp2_with fail;dsimp only [Nx];refine⟨_,⟨Zq _,λ v hv=>hv⟩,λ _=>YT.of ii,?_⟩;refine Z4 ?_;intro w2 C2;clear C1;go_wp2_with fail;refine(Bt.call AT).mono ?_;rintro e w3 ⟨v,q,rfl,⟨st2,rfl,rfl⟩,C3⟩;clear C2;dsimp only
   have in3:In (star HL) w3:=by
    rw [HHL.out];have BX:=Bt.oS (C3) [2,3,0,1,4];obtain⟨h0,p,hw⟩:=(BX.app [_,_]).mem (i:=0) rfl;exact⟨h0,p,hw⟩
   go_wp2_with fail;dsimp only [Nx];refine⟨_,⟨Zq _,λ v hv=>hv⟩,λ _=>YT.of in3,?_⟩
   (repeat(first|((with_reducible apply Zc);(·exact rfl);(·rintro _ ⟨gq,rfl⟩;exact ii);go_frame)|go_big_quiet_step (exact qZ)));refine nZ ?_
   refine Z4 ?_;intro w4 C4;clear C3;go_wp2_with fail;refine(Bt.call (P2 st2)).mono ?_;rintro e w5 ⟨v,q,rfl,⟨n',e,K',rfl,rfl,hK⟩,C5⟩;clear C4;dsimp only;have HK:=Lib.hid hK;clear hK;go_wp2_with fail;dsimp only [Nx];refine⟨_,⟨Zq _,λ v hv=>hv⟩,λ h=>absurd h (by decide),?_⟩
   (repeat(first|((with_reducible apply Zc);(·exact rfl);(·rintro _ ⟨gq,rfl⟩;exact ii);go_frame)|go_big_quiet_step (exact qZ)));refine nZ ?_
   (repeat(first|((with_reducible apply Zc);(·exact rfl);(·rintro _ ⟨gq,rfl⟩;exact ii);go_frame)|go_big_quiet_step (exact qZ)));refine nZ ?_
   refine Z4 ?_;intro w6 C6;clear C5;go_wp2_with((with_reducible apply Zb);(·exact rfl);(·exact rfl);(·exact ii));dsimp only [Nx];refine⟨_,⟨Zq _,λ v hv=>hv⟩,λ h=>absurd h (by decide),?_⟩
   (repeat go_big_quiet_step (exact qZ));refine nZ ?_
   rintro w7 hw7;have C7:Bt W h [_,R0,_,_,_] w7:=Ze hw7;clear hw7 C6;go_wp2_with fail
   go_meet
   have C8:=Bt.oS (C7) [0,2,3,1,4];exact⟨_,n',e,K',st2,rfl,rfl,HK.out,C8⟩
 case rest =>
  clear B P2 AT;obtain⟨b4,n',e,K',st2,rfl,rfl,⟨hK,he⟩,B1⟩:=hcut;have HE:=Lib.hid he;clear he
  by_cases h0:e=0
  ·subst h0;go_wp2_with(first|((with_reducible apply Za);(·exact rfl);(·exact ii))|((with_reducible apply Zb);(·exact rfl);(·exact rfl);(·exact ii)));go_ret
   (first|apply Zv|apply Zu)
   obtain⟨h1,h2⟩:=HE.out (by first|rfl|trivial);refine⟨.inr ⟨n',l,K',rfl,hK,⟨?_,sn.mono hK (Nat.le_refl _)⟩,⟨rfl,h1,h2⟩,rfl⟩,Yz (W:=W) (h:=h) (l:=[_,Zd wk (J8 st0 n' (.slice sa' l.length scap') (.slice ra' V.ds.length rcap')) 188,_,_,_]) ii λ w9 B9=>FIN w9 st2 true n' K' (C-70000) (by omega) B9.drop⟩;obtain⟨g,o,_⟩:=h2;exact⟨g,o⟩
  ·go_wp2_with fail;go_ret
   (first|apply Zv|apply Zu)
   exact⟨.inl ⟨e,live,l,K',h0,rfl,hK,rfl⟩,FIN _ st2 true live K' (C-70000) (by omega) B1.drop⟩
end
def ReO(id:Int)(wd wd':Wd):Prop:=∃ k:Nat,(id=k/\k<32)/\(wd.live k).isSome=true/\wd'={ wd with live:=Yw wd.live k none }
section
variable{V:VD}{pb txg:Nat}{root:Nd}{C:Nat}{K0:KS}{wd:Wd}
theorem Zcb(ht:txg+1<=4294967295)(id:Int)(hC:140000<=C) :
  Tq 55 #[pV pb,.int .i64 id] (Xn V pb txg root C K0 wd) (OpR V pb txg root (C-140000) K0 wd (ReO id wd)):=by
 refine Tq.of λ W h B0=>?_
 obtain⟨K,live,l,⟨hK0,ok⟩,B⟩:=B0.pos;clear B0;have M:∀ w,[In (Kh V pb txg root live l K C) w]->Fn 98 #[pV pb,.int .i64 id] w (.int .i64 (Vt id)):=λ w i=>Vo id w i
 by_cases hid:0<=id/\id<32
 ·rw [show Vt id=0 from if_pos hid]at M;obtain⟨h1,h2⟩:=hid;obtain⟨k,rfl⟩:=Int.eq_ofNat_of_zero_le h1;have hk:k<32:=by omega
  obtain⟨D,dr,hD⟩:=ok.live;have CH:=λ b1=>Ki (V:=V) (pb:=pb) (root:=root) ht ok.sn.len 100 (by kernel_rfl) #[pV b1] (Zgm ht dr ok.sn k hk b1 hC)
  have Ok:=Lib.hid ok;have HD:=Lib.hid hD;clear ok hD dr
  go_in
  go_wp2_with(with_reducible refine Fn.go λ g=>?_);refine ZB (W:=W) (h:=h) (l:=[_,Kh V pb txg root live l K C]) ii ?_;rintro w1 B1;haveI B4:=(B1.perm (List.Perm.swap ..)).app [_,_];clear B B1;refine(Bt.call (CH _)).mono ?_;rintro e w2 ⟨v,q,rfl,hR,B5⟩;clear B4 CH;dsimp only;rcases hR with ⟨e,he,rfl,rfl⟩|⟨live',l',K',rfl,hK,⟨rfl,hm,dr'⟩,rfl⟩
  ·go_wp2_with fail;go_ret
   (first|apply Zv|apply Zu)
   exact⟨.inl ⟨e,he,rfl,rfl⟩,(B5.flat.head λ h q=>⟨K,live,l,⟨hK0,Ok.out⟩,q⟩).fin_at 0 rfl⟩
  ·have HR:=Lib.hid dr';have HM:=Lib.hid hm;clear dr' hm;go_wp2_with fail;go_ret
   (first|apply Zv|apply Zu)
   have wo:qF K' txg live' l' { wd with live:=Yw wd.live k none }:=by
    refine⟨⟨_,HR.out,λ id hid=>?_⟩,Ok.out.ids,λ k x y h1 h2=>(Ok.out.dirs k x y h1 h2).mono hK,Ok.out.sn.mono hK (Nat.le_refl _)⟩;simp only [Yw]
    by_cases hik:id=k
    ·rw [if_pos hik,if_pos hik];exact⟨λ m hm=>(by cases hm),λ _=>rfl⟩
    ·rw [if_neg hik,if_neg hik];obtain⟨h1,h2⟩:=HD.out id hid;exact⟨λ m hm=>by obtain⟨t,h3,h4⟩:=h1 m hm;exact⟨t,h3,h4.mono hK⟩,h2⟩
   refine⟨.inr ⟨_,rfl,⟨k,⟨rfl,hk⟩,?_,rfl⟩,rfl⟩,(B5.flat.head λ h q=>⟨K',live',l',⟨hK0.trans hK,wo⟩,q⟩).fin_at 0 rfl⟩;have h3:=HM.out;cases hd:D k with
   |none=>rw [hd]at h3;cases h3
   |some m =>
    obtain⟨t,h4,_⟩:=(HD.out k hk).1 m hd;rw [h4];rfl
 ·have e:Vt id=1:=if_neg hid;rw [e]at M
  go_in
  go_wp2_with(with_reducible refine Fn.go λ g=>?_);go_ret
  (first|apply Zv|apply Zu)
  exact⟨.inl ⟨1,by decide,rfl,rfl⟩,Yz (W:=W) (h:=h) (l:=[_,Kh V pb txg root live l K C]) ii λ w9 B1=>(B1.drop.head λ h q=>⟨K,live,l,⟨hK0,ok⟩,q.less (by omega)⟩).fin_at 0 rfl⟩
end
instance(priority:=low) Zl8(b:Nat)(X:Array Value)(l:List Value)(W:World)[k:Zh W b X][t:ToL X l]:XP b l W:=⟨Zh.old k,λ j v e=>by rw [YO W b j X,t.e];simpa using e⟩
def SnO(id:Int)(l:List Sn):Prop:=(0<=id/\id<=99)/\l.any (YW id)=false/\l.length<4
theorem Um.snoc{K:KS}{txg:Nat}{l:List Sn}{id:Int}{live:Nd}(d:Um K txg l)(s:SnO id l)(ho:∃ g,Ob K live g):Um K txg (l++[⟨id,(txg+1:Nat),live⟩]):=by
 obtain⟨s1,s2,s3⟩:=s;have hx:∀ x∈l++[(⟨id,((txg+1:Nat):Int),live⟩:Sn)],x∈l\/x=⟨id,((txg+1:Nat):Int),live⟩:=λ x hx=>by simpa using hx
 have hg:∀(k:Nat)(x:Sn),(l++[(⟨id,((txg+1:Nat):Int),live⟩:Sn)])[k]?=some x->l[k]?=some x\/(k=l.length/\x=⟨id,((txg+1:Nat):Int),live⟩):=λ k x h=>by
  rcases Nat.lt_or_ge k l.length with h1|h1
  ·rw [List.getElem?_append_left h1]at h;exact .inl h
  ·rw [List.getElem?_append_right h1]at h;have h2:=(List.getElem?_eq_some_iff.1 h).1;simp at h2;obtain rfl:k=l.length:=by omega
   simp at h;exact .inr ⟨rfl,h.symm⟩
 refine⟨by simp;omega,λ x h=>?_,λ x h=>?_,λ x h=>?_,λ k x y h1 h2=>?_,λ j k x y h1 h2 hjk=>?_⟩
 ·rcases hx x h with h|rfl
  ·exact d.id x h
  ·exact s1
 ·rcases hx x h with h|rfl
  ·exact d.txg x h
  ·exact⟨by show (1:Int)<=((txg+1:Nat):Int);omega,by show ((txg+1:Nat):Int)<=_;omega⟩
 ·rcases hx x h with h|rfl
  ·exact d.dir x h
  ·exact ho
 ·rcases hg _ _ h2 with h3|⟨h3,rfl⟩
  ·rcases hg _ _ h1 with h4|⟨h4,rfl⟩
   ·exact d.up k x y h4 h3
   ·have:=(List.getElem?_eq_some_iff.1 h3).1;omega
  ·rcases hg _ _ h1 with h4|⟨h4,rfl⟩
   ·have:=d.txg x (List.mem_of_getElem? h4);show x.txg<=((txg+1:Nat):Int)
    omega
   ·omega
 ·rcases hg _ _ h2 with h3|⟨h3,rfl⟩
  ·rcases hg _ _ h1 with h4|⟨h4,rfl⟩
   ·exact d.ne j k x y h4 h3 hjk
   ·have:=(List.getElem?_eq_some_iff.1 h3).1;omega
  ·rcases hg _ _ h1 with h4|⟨h4,rfl⟩
   ·intro e;have h5:=List.any_eq_false.1 s2 x (List.mem_of_getElem? h4);simp [YW]at h5;exact h5 e
   ·omega
section
variable{V:VD}{pb txg:Nat}{root live:Nd}{l:List Sn}{K:KS}{C:Nat}
theorem Zjk(ht:txg+1<=4294967295)(ho:∃ g,Ob K live g)(sn:Um K txg l)(id:Int)(b1 b2:Nat)(wk:Nat) :
  Tq 102 (#[pV wk]++#[pV b1,pV b2]) (star [yL V pb txg root live l K wk true live l K C,star [Zd b1 #[.int .i64 id] 3,Zd b2 #[pV pb] 27]])
   (ZhP V pb txg root live l K wk C (star [Zd b1 #[.int .i64 id] 3,Zd b2 #[pV pb] 27]) λ live' l' K'=>SnO id l/\live'=live/\l'=l++[⟨id,(txg+1:Nat),live⟩]):=by
 refine Tq.of λ W h B0=>?_
 have B1:=Bt.oS (B0.flat) [1,0];have B2:=Bt.oS (B1.flat) [2,0,1];obtain⟨sa,scap,ra,rcap,bb,wb,sb,ms,es,st0,st,mt,sa',scap',ra',rcap',⟨ss,us,hC9,hf⟩,B3⟩:=B2.wk;clear hf B0 B1 B2;have B4:=Bt.oS (B3) [1,2,3,6,7,0,4,5,8,9];have B:=B4.app [_,_,_,_,_];clear B3 B4;obtain⟨R0,hR0⟩:∃ R0,star [Zw 125 15 sa l.length scap (Ye l),Zw 92 2 ra V.ds.length rcap (YU V.ds.length),ZV wb sb V.secs ms es,Zw 92 2 ra' V.ds.length rcap' (YU V.ds.length),Qe V st bb sb (txg+1) 40 mt K C]=R0:=⟨_,rfl⟩
 rw [hR0]at B;have HR0:=Lib.hid hR0;clear hR0
 have FIN:∀(w9:World)(l':List Sn)(sa2:Option Addr)(scap2:Nat),Bt W h [R0,Zd pb (X7 V txg root live (.slice sa l.length scap) (.slice ra V.ds.length rcap) (pV bb) (pV wk) (pV wb)) 82,Zd wk (J8 st0 live (.slice sa2 l'.length scap2) (.slice ra' V.ds.length rcap')) 188,Zw 125 15 sa2 l'.length scap2 (Ye l'),Zd b1 #[.int .i64 id] 3,Zd b2 #[pV pb] 27] w9 ->
   Zg W h (star [yL V pb txg root live l K wk false live l' K C,star [Zd b1 #[.int .i64 id] 3,Zd b2 #[pV pb] 27]]) w9:=λ w9 l' sa2 scap2 B=>by
  rw [<-HR0.out]at B;have B3:=B.flat;have B4:=Bt.oS (B3) [5,0,1,2,6,7,3,4,8,9];have B7:=Bt.wk_shut (wk:=wk) (fresh:=false) (st0:=st0) (st:=st) (mt:=mt) (es:=es) (ra':=ra') (rcap':=rcap') (sa':=sa2) (scap':=scap2) (sa:=sa) (scap:=scap) (ra:=ra) (rcap:=rcap) (bb:=bb) (wb:=wb) (ms:=ms) (sb:=sb) ⟨ss,us,hC9,λ h=>by cases h⟩ B4;have B8:=Bt.oS (B7) [1,2,0];exact(((B8.app [_,_]).perm (List.Perm.swap ..)).app [_,_]).fin_at 0 rfl
 have hl:=sn.len;have F:=λ w (_:Zy 15 sa' l.length scap' (Ye l) w)=>jU live sa' scap' l (.slice ra' V.ds.length rcap') w id hl
 have hc:id<0\/(0<=id/\99<id)\/((0<=id/\id<=99)/\l.any (YW id)=true)\/((0<=id/\id<=99)/\l.any (YW id)=false/\4<=l.length)\/SnO id l:=by
  unfold SnO;cases l.any (YW id)<;>simp<;>omega
 obtain⟨fa,hfa⟩:∃ fa,l.any (YW id)=fa:=⟨_,rfl⟩
 unfold SnO at hc;rw [hfa]at F hc;have Hfa:=Lib.hid hfa;clear hfa;have F1:∀ w,[Zy 15 sa' l.length scap' (Ye l) w]->Fn 103 #[.agg (mC live (.slice sa' l.length scap') (.slice ra' V.ds.length rcap')),.int .i64 id] w (.tuple #[.int .i64 (Kb (KJ (YW id) l) 0),.bool fa]):=λ w i=>F w i
 have TX:∀ w,[Zh w pb (X7 V txg root live (.slice sa l.length scap) (.slice ra V.ds.length rcap) (pV bb) (pV wk) (pV wb))]->Fn 26 #[pV pb] w (.int .i64 ((txg+1:Nat):Int)):=λ w _=>ZfE V pb txg root live _ _ _ _ _ w _ (by omega) (by omega) (by omega)
 haveI:=(Yo B (i:=3) rfl).1;clear F us ss hC9;show Calls Tryz.prog 102 #[pV wk,pV b1,pV b2] W _;rcases hc with h1|⟨h0,h1⟩|⟨⟨h0,h1⟩,rfl⟩|⟨⟨h0,h1⟩,rfl,h4⟩|⟨⟨h0,h1⟩,rfl,h4⟩
 case inr.inr.inr.inr =>
  go_in
  go_wp2_with fail;refine plZ (.q [0,1,2,3,4] (.x [5] (.q [6,7,8,9,10] .d))) ?_;simp only [Zk.run,pick,gZ,gS,gA,gN]
  (repeat(first|((with_reducible apply Zc);(·exact rfl);(·rintro _ ⟨gq,rfl⟩;exact ii);go_frame)|go_big_quiet_step (exact qZ)));refine nZ ?_
  rintro w1 hw1;have B1:Bt W h _ w1:=Ze hw1;haveI:Zy 15 sa' l.length scap' (Ye l) w1:=(Yo B1 (i:=3) rfl).1;clear hw1 B;go_wp2_with(with_reducible refine Fn.go λ g=>?_);dsimp only [Nx]
  (repeat go_big_quiet_step (exact qZ));refine nZ ?_
  rintro w2 hw2;have B2:Bt W h [_,_,Zd wk (J8 st0 live (.slice sa' l.length scap') (.slice ra' V.ds.length rcap')) 188,_,_,_] w2:=Ze hw2;clear hw2 B1;go_wp2_with fail;obtain⟨HL,hHL⟩:∃ HL:List SP,HL=[Zd wk (J8 st0 live (.slice sa' l.length scap') (.slice ra' V.ds.length rcap')) 188]:=⟨_,rfl⟩
  have in0:In (star HL) w2:=by
   rw [hHL];have BX:=Bt.oS (B2) [2,0,1,3,4,5];obtain⟨h0,p,hw⟩:=(BX.app [_]).mem (i:=0) rfl;exact⟨h0,p,hw⟩
  have i1:∀ x:JD (star HL),Zh x.w wk (J8 st0 live (.slice sa' l.length scap') (.slice ra' V.ds.length rcap')):=λ x=>ZU x.h (k:=0) (by rw [hHL];rfl)
  clear hHL;have GH:=Zq (star HL);haveI:Nonempty (JD (star HL)):=⟨⟨w2,in0⟩⟩
  refine ZZ (YT (star HL)) [15] (.q [6,7,8,9,10,11,12,13,14] (.f [1,2,3,4,5] (.c 0 (.x [15] (.x [16] (.q [17,18,19] (.x [20] .d))))))) GH (YT.of in0) (by kernel_rfl) (by kernel_rfl) ?_;simp only [Zk.runC,pick,List.getElem?_cons_zero,List.getElem?_cons_succ,List.cons_append,List.nil_append]
  (repeat(first|((with_reducible apply Zc);(·exact rfl);(·rintro _ ⟨gq,rfl⟩;exact ii);go_frame)|go_big_quiet_step (exact qZ)));refine nZ ?_
  (repeat(first|((with_reducible apply Zc);(·exact rfl);(·rintro _ ⟨gq,rfl⟩;exact ii);go_frame)|go_big_quiet_step (exact qZ)));refine nZ ?_
  (repeat(first|((with_reducible apply Zc);(·exact rfl);(·rintro _ ⟨gq,rfl⟩;exact ii);go_frame)|go_big_quiet_step (exact qZ)));refine nZ ?_
  rintro w3 hw3;have B3:Bt W h _ w3:=Ze hw3;haveI in3:In (star HL) w3:=by obtain⟨g,rfl⟩:=hw3;infer_instance
  clear hw3 B2;go_wp2_with fail;dsimp only [Nx];refine⟨_,⟨Zq _,λ v hv=>hv⟩,λ _=>YT.of ii,?_⟩;refine Z4 ?_;intro w4 B4;clear B3;go_wp2_with(at_builtin;(with_reducible apply ZI);(·exact rfl);(·exact rfl);(·exact ii);(·exact ii);(·exact ii);(·exact rfl);(·decide);(·omega);intro gA capA wA bA;(try dsimp only at bA));dsimp only [Nx];refine⟨_,⟨Zq _,λ v hv=>hv⟩,λ h=>absurd h (by decide),?_⟩
  (try go_frame)
  (repeat go_big_quiet_step (exact qZ));refine nZ ?_
  rintro w6 hw6;have B6:Bt W h _ w6:=bA.cls hw6;clear hw6 bA B4;go_wp2_with fail;dsimp only [Nx];refine⟨_,⟨Zq _,λ v hv=>hv⟩,λ h=>absurd h (by decide),?_⟩;rintro w7 hw7;have B7:Bt W h [_,R0,Zd pb _ _,Zd wk (J8 st0 live (.slice (some ⟨gA,0,none⟩) (l.length+1) capA) (.slice ra' V.ds.length rcap')) 188,Zw 125 15 (some ⟨gA,0,none⟩) (l.length+1) capA (Ye l++[(⟨id,(txg+1:Nat),live⟩:Sn).cs]),Zd b1 _ _,Zd b2 _ _] w7:=Ze hw7;clear hw7 B6;go_wp2_with fail;go_ret
  (first|apply Zv|apply Zu)
  have e1:(l++[(⟨id,((txg+1:Nat):Int),live⟩:Sn)]).length=l.length+1:=by simp
  have e2:Ye (l++[(⟨id,((txg+1:Nat):Int),live⟩:Sn)])=Ye l++[(⟨id,((txg+1:Nat):Int),live⟩:Sn).cs]:=by simp [Ye]
  rw [<-e1,<- e2]at B7;have so:SnO id l:=⟨⟨h0,h1⟩,Hfa.out,h4⟩
  exact⟨.inr ⟨live,_,K,rfl,KS.le.refl K,⟨ho,sn.snoc so ho⟩,⟨so,rfl,rfl⟩,rfl⟩,FIN _ _ _ _ B7.drop⟩
 all_goals
  go_in
  go_wp2_with fail;refine plZ (.q [0,1,2,3,4] (.x [5] (.q [6,7,8,9,10] .d))) ?_;simp only [Zk.run,pick,gZ,gS,gA,gN]
  (repeat(first|((with_reducible apply Zc);(·exact rfl);(·rintro _ ⟨gq,rfl⟩;exact ii);go_frame)|go_big_quiet_step (exact qZ)));refine nZ ?_
  rintro w1 hw1;have B1:Bt W h _ w1:=Ze hw1;haveI:Zy 15 sa' l.length scap' (Ye l) w1:=(Yo B1 (i:=3) rfl).1;clear hw1 B;go_wp2_with(with_reducible refine Fn.go λ g=>?_);dsimp only [Nx]
  (repeat go_big_quiet_step (exact qZ));refine nZ ?_
  refine Z4 ?_;intro w2 B2;clear B1;go_wp2_with fail;go_ret
  (first|apply Zv|apply Zu)
  exact⟨.inl ⟨_,live,l,K,by decide,rfl,KS.le.refl K,rfl⟩,FIN _ l sa' scap' B2⟩
end
def SpO(id:Int)(wd wd':Wd):Prop:=(0<=id/\id<=99)/\(∀ y∈wd.snaps,y.1≠id)/\wd.snaps.length<4/\wd'={ wd with snaps:=wd.snaps++[(id,wd.live)] }
theorem Vr{l:List Sn}{s:List (Int × Yt)}(h:l.map Sn.id=s.map Prod.fst):l.length=s.length:=by simpa using congrArg List.length h
section
variable{V:VD}{pb txg:Nat}{root:Nd}{C:Nat}{K0:KS}{wd:Wd}
theorem Zhg(ht:txg+1<=4294967295)(id:Int) :
  Tq 56 #[pV pb,.int .i64 id] (Xn V pb txg root C K0 wd) (OpR V pb txg root C K0 wd (SpO id wd)):=by
 refine Tq.of λ W h B0=>?_
 obtain⟨K,live,l,⟨hK0,ok⟩,B⟩:=B0.pos;clear B0;have CH:=λ b1 b2=>Ki (V:=V) (pb:=pb) (root:=root) ht ok.sn.len 102 (by kernel_rfl) #[pV b1,pV b2] (Zjk (C:=C) ht ok.live.ob ok.sn id b1 b2)
 have Ok:=Lib.hid ok;clear ok
 go_in
 go_wp2_with fail;refine ZB (W:=W) (h:=h) (l:=[_,_,Kh V pb txg root live l K C]) ii ?_;rintro w1 B1;have B2:=B1.app [_,_];haveI B4:=(B2.perm (List.Perm.swap ..)).app [_,_];clear B B1 B2;refine(Bt.call (CH _ _)).mono ?_;rintro e w2 ⟨v,q,rfl,hR,B5⟩;clear B4 CH;dsimp only;rcases hR with ⟨e,he,rfl,rfl⟩|⟨live',l',K',rfl,hK,⟨so,rfl,rfl⟩,rfl⟩
 ·go_wp2_with fail;go_ret
  (first|apply Zv|apply Zu)
  exact⟨.inl ⟨e,he,rfl,rfl⟩,(B5.flat.head λ h q=>⟨K,live,l,⟨hK0,Ok.out⟩,q⟩).fin_at 0 rfl⟩
 ·have So:=Lib.hid so;clear so;go_wp2_with fail;go_ret
  (first|apply Zv|apply Zu)
  have ok:=Ok.out;obtain⟨s1,s2,s3⟩:=So.out;have hln:=Vr ok.ids
  have wo:qF K' txg live' (l++[⟨id,(txg+1:Nat),live'⟩]) { wd with snaps:=wd.snaps++[(id,wd.live)] }:=by
   have o1:=ok.mono hK (Nat.le_refl _);refine⟨o1.live,by simp [ok.ids],λ k x y h1 h2=>?_,o1.sn.snoc So.out o1.live.ob⟩;rcases Nat.lt_or_ge k l.length with hk|hk
   ·rw [List.getElem?_append_left hk]at h1;rw [List.getElem?_append_left (by omega)]at h2;exact o1.dirs k x y h1 h2
   ·rw [List.getElem?_append_right hk]at h1;rw [List.getElem?_append_right (by omega)]at h2;have hk2:=(List.getElem?_eq_some_iff.1 h1).1;simp at hk2;obtain rfl:k=l.length:=by omega
    simp at h1;rw [show l.length-wd.snaps.length=0 by omega]at h2;simp at h2;rw [<-h1,<- h2];exact o1.live
  refine⟨.inr ⟨_,rfl,⟨s1,λ y hy=>?_,by omega,rfl⟩,rfl⟩,(B5.flat.head λ h q=>⟨K',live',_,⟨hK0.trans hK,wo⟩,q⟩).fin_at 0 rfl⟩;intro e;have h5:y.1∈l.map Sn.id:=by rw [ok.ids];exact List.mem_map_of_mem hy
  obtain⟨x,hx,hxe⟩:=List.mem_map.1 h5;have h6:=List.any_eq_false.1 s2 x hx;simp [YW]at h6;exact h6 (hxe.trans e)
end
theorem ZaQ{z m c:Nat}{a2:Addr}{ys:List (List Value)}{W:World}(kpos:0<z)(hr:Zy z (some a2) m c ys W)(hz:∀ y∈ys,y.length=z):∀(j:Nat)(u:Value),ys.flatten[j]?=some u->W.cell? (a2.add j)=some u:=λ j u hj=>by
 have hl:=Yy hz;have hjl:j<ys.length*z:=by rw [<-hl];exact(List.getElem?_eq_some_iff.1 hj).1
 have hq:j/z<ys.length:=Nat.div_lt_of_lt_mul (by rw [Nat.mul_comm];exact hjl);have hm:j%z<z:=Nat.mod_lt _ kpos;have e:j=j/z*z+j%z:=by rw [Nat.mul_comm];exact(Nat.div_add_mod ..).symm
 have hy:=List.getElem?_eq_getElem hq;have h2:=QM ys z (j/z) (j%z) _ hz hy hm;rw [<-e,hj]at h2;obtain⟨b,o,he,hb,hc⟩:=hr.cells _ _ hy;obtain rfl:a2=⟨b,o,none⟩:=by injection he
 have h3:=hc _ _ h2.symm
 have e2:(⟨b,o,none⟩:Addr).add j=⟨b,o+j/z*z+j%z,none⟩:=by
  have:o+j/z*z+j%z=o+j:=by omega
  rw [this];exact zj _ _ _
 rw [e2];exact h3
theorem Uu{ts e:TypeId}{z by_:Nat}[k:Jl ts e z by_]{g at_ m cap c:Nat}{a2:Addr}{vs:List (List Value)}{W W':World}(hr:Zy z (some a2) m c vs W)(hz:∀ y∈vs,y.length=z)(hroom:at_+m<=cap)
  (hst:(storeCells ⟨g,at_*z,none⟩ vs.flatten).run Tryz.prog W=.ok () W') (ty:TypeId) :
  (Builtin.append_ #[ts,ts] ty #[.slice (some ⟨g,0,none⟩) at_ cap,.slice (some a2) m c]).run Tryz.prog W=.ok (.slice (some ⟨g,0,none⟩) (at_+m) cap) W':=by
 obtain⟨i,zr,hi,hz0,hz1,hz2,hz3⟩:=Jl.el (ts:=ts) (e:=e) (z:=z) (by_:=by_);have ksl:=Jl.sl (ts:=ts) (e:=e) (z:=z) (by_:=by_);have kpos:=Jl.pos (ts:=ts) (e:=e) (z:=z) (by_:=by_);subst hz1;have hf:=run_firstCells_some (P:=Tryz.prog) W i.size m a2 m c vs.flatten (by rw [Yy hz,hr.len]) (ZaQ kpos hr hz);simp [Builtin.append_,run_underlying ksl,sizeOf,typeInfo,hi,Builtin.lenOf,hroom,hf,Addr.add_lit,hst]
theorem ZgI{ts e:TypeId}{z by_:Nat}[k:Jl ts e z by_]{h:Hl}{ad:Option Addr}{n cap m c:Nat}{a2:Addr}{L ys:List (List Value)}(p:Zw e z ad n cap L h)(W:World)[hw:Has W h](hr:Zy z (some a2) m c ys W)(hz:∀ y∈ys,y.length=z)(h1:∀ y∈ys,∀ u∈y,u.oneCell'=true)(hn:n+m<=1000000000)(hb:by_<=1000) :
  ∃ ad' cap' W',(∀ ty,(Builtin.append_ #[ts,ts] ty #[.slice ad n cap,.slice (some a2) m c]).run Tryz.prog W=.ok (.slice ad' (n+m) cap') W')/\Zg W h (Zw e z ad' (n+m) cap' (L++ys)) W':=by
 obtain⟨i,zr,hi,hz0,hz1,hz2,hz3⟩:=Jl.el (ts:=ts) (e:=e) (z:=z) (by_:=by_);have ksl:=Jl.sl (ts:=ts) (e:=e) (z:=z) (by_:=by_);have kpos:=Jl.pos (ts:=ts) (e:=e) (z:=z) (by_:=by_);have hown:=p.own W;obtain⟨p1,p2,p3⟩:=p
 obtain⟨v',W',hrun,hown',hgr,hnil,hloc⟩:=run_append_own_at (P:=Tryz.prog) W 0 ts ts e i zr z by_ ksl hi hz0 hz1 hz2 hz3 kpos _ n _ hown a2 m c ys.flatten (by rw [Yy hz,hr.len])
  (ZaQ kpos hr hz) (λ u hu=>by obtain⟨y,hy,hu⟩:=List.mem_flatten.1 hu;exact h1 y hy u hu) (by unfold maxLen;omega) (by have:=Nat.mul_le_mul hn hb;omega) (Nat.zero_le _)
 have hz':∀ x∈L++ys,x.length=z:=λ x hx=>by
  rcases List.mem_append.1 hx with hx|hx
  ·exact p2 x hx
  ·exact hz x hx
 have hl':(L++ys).length=n+m:=by rw [List.length_append,p1,hr.len]
 rcases hown'.2 with ⟨rfl,h0⟩|⟨b',c',cur',rfl,_,hb',hle',hmx',hs',ht'⟩
 ·have e1:L++ys=[]:=List.eq_nil_of_length_eq_zero (by omega);refine⟨none,0,W',λ ty=>by rw [h0];exact hrun,⟨hgr.os,hgr.tape,hgr.output,hgr.size,λ m hm e1=>hgr.block m hm λ e2=>?_⟩,λ _=>none,⟨λ k o e=>by cases e⟩,λ m hm e1=>rfl,hl',hz',.inl ⟨rfl,h0,rfl⟩⟩;rcases p3 with ⟨rfl,rfl,rfl⟩|⟨g,rfl,h2,cur,r1,_⟩
  ·cases e2
  ·injection e2 with e2;rw [e2,r1]at e1;cases e1
 have hloc:b'=W.heap.size\/∃ g,ad=some ⟨g,0,none⟩/\b'=g/\h g≠none:=by
  rcases hloc with e1|e1
  ·right;rcases p3 with ⟨rfl,rfl,rfl⟩|⟨g,rfl,h2,cur,r1,_⟩
   ·cases e1
   ·exact⟨g,rfl,(by simpa [Value.ownBlock]using e1),by rw [r1];simp⟩
  ·left;injection e1
 refine⟨some ⟨b',0,none⟩,c',W',λ ty=>hrun,⟨hgr.os,hgr.tape,hgr.output,hgr.size,λ m hm e1=>hgr.block m hm λ e2=>?_⟩,λ m=>if m=b' then some (.cells cur' e)else none,⟨λ m o e1=>?_⟩,λ m hm e1=>?_,hl',hz',.inr ⟨b',rfl,hmx',cur',if_pos rfl,hs',?_,hz',by omega⟩⟩
 ·rcases p3 with ⟨rfl,rfl,rfl⟩|⟨g,rfl,h2,cur,r1,_⟩
  ·cases e2
  ·injection e2 with e2;rw [e2,r1]at e1;cases e1
 ·by_cases hm:m=b'
  ·subst hm;rw [if_pos rfl]at e1;cases e1;exact hb'
  ·rw [if_neg hm]at e1;cases e1
 ·refine if_neg ?_;rintro rfl;rcases hloc with h2|⟨g,_,rfl,h2⟩
  ·omega
  ·exact h2 e1
 ·rw [hl',ht'];simp
theorem YC.cut{t:TypeId}{z g cap:Nat}{L L':List (List Value)}{h:Hl}(r:YC t z g cap L h)(k:Nat)(hk:k<=L.length)(e:L.take k=L'):YC t z g cap L' h:=by
 obtain⟨cur,r1,r2,r3,r4,r5⟩:=r;have hl:L'.length=k:=by rw [<-e,List.length_take];omega
 have hz':∀ x∈L',x.length=z:=λ x hx=>r4 x (by rw [<-e]at hx;exact List.mem_of_mem_take hx)
 refine⟨cur,r1,r2,?_,hz',by omega⟩;have e2:L.flatten=L'.flatten++(L.drop k).flatten:=by rw [<-e,<- List.flatten_append,List.take_append_drop]
 have e3:cur.toList.take (L'.length*z)=(cur.toList.take (L.length*z)).take (L'.length*z):=by
  rw [List.take_take,Nat.min_eq_left];exact Nat.mul_le_mul_right _ (by omega)
 rw [e3,r3,e2,<- Yy hz'];exact List.take_left
theorem Zjy(ad:Option Addr)(n cap i:Nat)(L:List (List Value))(hn:n<=4)(hi:i<n)(h1:∀ y∈L,∀ u∈y,u.oneCell'=true) :
  Tq 106 #[.slice ad n cap,.int .i64 i,.int .i64 ((i:Int)+1)] (Zw 125 15 ad n cap L) λ v q=>v=.slice ad (n-1) cap/\q=Zw 125 15 ad (n-1) cap (L.eraseIdx i):=by
 intro W h hw hp;obtain⟨p1,p2,p3⟩:=hp;rcases p3 with ⟨rfl,rfl,rfl⟩|⟨g,rfl,hmx,r⟩
 ·omega
 have hcap:n<=cap:=by obtain⟨cur,r1,r2,r3,r4,r5⟩:=r;omega
 have R:=r.rd (c:=cap) p1 W;have hne:((i:Int)==(i:Int)+1)=false:=by simp;omega
 have hi4:i<=4:=by omega
 obtain⟨m,hm⟩:∃ m,m=n-(i+1):=⟨_,rfl⟩
 have hv1:∀ y∈L.drop (i+1),y.length=15:=λ y hy=>p2 y (List.mem_of_mem_drop hy)
 have hv2:∀ y∈L.drop (i+1),∀ u∈y,u.oneCell'=true:=λ y hy=>h1 y (List.mem_of_mem_drop hy)
 have hvl:(L.drop (i+1)).length=m:=by rw [List.length_drop];omega
 have AP:∀(w:World) [Has w h],∃ W',(∀(c:Nat)(ty:TypeId),(Builtin.append_ #[73,73] ty #[.slice (some ⟨g,0,none⟩) i cap,.slice (JQ (some ⟨g,0,none⟩) (i+1) cap 15) m c]).run Tryz.prog w=.ok (.slice (some ⟨g,0,none⟩) (n-1) cap) W')/\Zg w h (YC 125 15 g cap (L.take i++L.drop (i+1)++L.drop (i+m))) W':=λ w _=>by
  obtain⟨X,hs,T⟩:=r.sto (vs:=L.drop (i+1)) (i:=i) (by omega) hv1 hv2 w;rw [hvl]at T;refine⟨_,λ c ty=>?_,T⟩;have R':=(r.rd (c:=cap) p1 w).rest (i+1) c hcap;have e:n-1=i+m:=by omega
  rw [e];rw [<-hm]at R';obtain⟨a2,ha⟩:∃ a2,JQ (some (⟨g,0,none⟩:Addr)) (i+1) cap 15=some a2:=by unfold JQ;split<;>exact⟨_,rfl⟩
  rw [ha]at R' ⊢;exact Uu (ts:=73) R' hv1 (by omega) hs ty
 have CL:∀(w:World)(h:Hl) [Has w h] (L2:List (List Value)),L2.length=n->YC 125 15 g cap L2 h->∃ W',(∀(c:Nat)(ty:TypeId),(Builtin.clear_ #[73] ty #[.slice (some ⟨g,(n-1)*15,none⟩) 1 c]).run Tryz.prog w=.ok (.tuple #[]) W')/\Zg w h (Zw 125 15 (some ⟨g,0,none⟩) (n-1) cap (L2.take (n-1))) W':=λ w h _ L2 hl r2=>by
  have s2:star [YC 125 15 g cap L2] h:=⟨h,λ _=>none,r2,trivial,λ _ _ e=>e,(λ _ _ e=>by cases e),λ _=>.inr rfl⟩
  obtain⟨W',hr,T⟩:=zD (ts:=73) (c:=0) s2 (k:=0) rfl (i:=n-1) (by omega) (.agg (Sn.cs ⟨0,0,Nd.none⟩).toArray) Tryz.underlying73 (λ _=>by kernel_rfl) rfl (by omega) (by simp [Value.cells,Value.oneCell',Sn.cs]) w;refine⟨W',λ c ty=>?_,T.mono λ h' s'=>?_⟩
  ·have:=hr ty;rw [hl,show n-(n-1)=1 by omega]at this;rw [<-this];rfl
  ·obtain⟨h2,r3,sb⟩:=s'.get (i:=0) rfl;have hl3:(L2.take (n-1)).length=n-1:=by rw [List.length_take];omega
   have r4:=r3.cut (L':=L2.take (n-1)) (n-1) (by simp;omega) (by rw [List.take_append_of_le_length (by omega),List.take_of_length_le (by omega)]);obtain⟨cur,q1,q2,q3,q4,q5⟩:=r4;exact⟨hl3,q4,.inr ⟨g,rfl,hmx,cur,sb _ _ q1,q2,q3,q4,q5⟩⟩
 have hfin:(L.take i++L.drop (i+1)++L.drop (i+m)).take (n-1)=L.eraseIdx i:=by
  rw [List.eraseIdx_eq_take_drop_succ,List.take_left'];rw [List.length_append,List.length_take,hvl];omega
 have hl2:(L.take i++L.drop (i+1)++L.drop (i+m)).length=n:=by
  rw [List.length_append,List.length_append,List.length_take,hvl,List.length_drop];omega
 by_cases hc:cap=i+1
 ·have ha:JQ (some (⟨g,0,none⟩:Addr)) (i+1) cap 15=some ⟨g,0,none⟩:=if_pos hc;simp only [ha]at AP;obtain rfl:n=i+1:=by omega
  obtain rfl:cap=i+1:=hc;obtain rfl:m=0:=by omega
  clear hv1 hv2 hvl hm R
  go_in
  go_wp2_with fail;refine plZ (.q [0,1,2,3,4,5] (.x [6] (.q [7] .d))) ?_;simp only [Zk.run,pick,gZ,gS,gA,gN]
  (repeat go_big_quiet_step (exact qZ));refine nZ ?_
  rintro w1 hw1;haveI:Has w1 h:=by obtain⟨g,rfl⟩:=hw1;infer_instance
  have tn:Tn W h w1 h:=by obtain⟨g,rfl⟩:=hw1;infer_instance
  clear hw1 AP;go_wp2_with fail;dsimp only [Nx]
  (try go_frame)
  (repeat go_big_quiet_step (exact qZ));refine nZ ?_
  rintro _ ⟨g3,rfl⟩;have T3:Zg w1 h (YC 125 15 g (i+1) L) (gr w1 g3):=Zg.gr (Zg.same ii r) g3;obtain⟨m3,h3,i3,x3,r3⟩:=T3;obtain⟨W4,hr4,T4⟩:=CL (gr w1 g3) h3 L p1 r3;have hfin2:L.take (i+1-1)=L.eraseIdx i:=by rw [<-hfin,List.take_left' (by simp;omega)];simp [List.drop_eq_nil_of_le (show L.length<=i+1 by omega)]
  rw [hfin2]at T4;have TF:=Zg.after tn.m tn.x (Zg.after m3 x3 T4);clear T4 m3 i3 x3 r3 tn CL hfin hfin2 hl2;simp only [Nat.add_sub_cancel]at hr4 TF;have hn1:¬ i+1=i:=by omega
  have hn2:i+1-i=1:=by omega
  go_wp2_with fail;go_ret;exact⟨_,_,rfl,⟨by rw [Nat.add_sub_cancel];rfl,by rw [Nat.add_sub_cancel]⟩,TF⟩
 ·have ha:JQ (some (⟨g,0,none⟩:Addr)) (i+1) cap 15=some ⟨g,(i+1)*15,none⟩:=by unfold JQ;rw [if_neg hc];simp [Addr.add]
  simp only [ha]at AP
  go_in
  go_wp2_with fail;refine plZ (.q [0,1,2,3,4,5] (.x [6] (.q [7] .d))) ?_;simp only [Zk.run,pick,gZ,gS,gA,gN]
  (repeat go_big_quiet_step (exact qZ));refine nZ ?_
  rintro w1 hw1;haveI:Has w1 h:=by obtain⟨g,rfl⟩:=hw1;infer_instance
  have tn:Tn W h w1 h:=by obtain⟨g,rfl⟩:=hw1;infer_instance
  obtain⟨W2,hr,T⟩:=AP w1;clear hw1 AP;rw [hm]at hr;go_wp2_with(at_builtin;(refine ZP rfl _ _ _ _ rfl _ _ rfl rfl (hr _ _) ?_));dsimp only [Nx]
  (try go_frame)
  (repeat go_big_quiet_step (exact qZ));refine nZ ?_
  rintro g3;have T3:=T.gr g3;clear hr T;obtain⟨m3,h3,i3,x3,r3⟩:=T3;obtain⟨W4,hr4,T4⟩:=CL (gr W2 g3) h3 _ hl2 r3;rw [hfin]at T4;have TF:=Zg.after tn.m tn.x (Zg.after m3 x3 T4);clear T4 m3 i3 x3 r3 tn CL;have hn1:¬ cap=n-1:=by omega
  have hn2:n-(n-1)=1:=by omega
  have hn3:((n-1:Nat):Int)<=n:=by omega
  go_wp2_with fail;go_ret;exact⟨_,_,rfl,⟨rfl,rfl⟩,TF⟩
section
variable{V:VD}{pb txg:Nat}{root live:Nd}{l:List Sn}{K:KS}{C:Nat}
theorem Zip(sn:Um K txg l)(id:Int)(b1 b2:Nat)(fa:FuncId)(qa:XB Tryz.prog fa=true)(G:Nat->Nd->List Sn->Prop)
  (A:∀(wk i st n:Nat)(x:Sn)(sa:Option Addr)(scap:Nat)(sl:Option Addr)(scl:Nat),l[i]?=some x->x.id=id->Tq fa #[pV wk,.int .i64 i] (star [Zd wk (J8 st live (.slice sa l.length scap) (.slice sl n scl)) 188,Zw 125 15 sa l.length scap (Ye l)]) λ _ q=>∃ sa2 scap2 live' l',G i live' l'/\q=star [Zd wk (J8 st live' (.slice sa2 l'.length scap2) (.slice sl n scl)) 188,Zw 125 15 sa2 l'.length scap2 (Ye l')])
  (hG:∀ i x live' l',l[i]?=some x->G i live' l'->(∃ g,Ob K live' g)/\Um K txg l') (wk:Nat) :
  Tq 168 (#[pV wk]++#[pV b1,pV b2]) (star [yL V pb txg root live l K wk true live l K C,star [Zd b1 #[.int .i64 id] 3,Zd b2 #[.func (.func fa) #[] #[]] 201]])
   (ZhP V pb txg root live l K wk C (star [Zd b1 #[.int .i64 id] 3,Zd b2 #[.func (.func fa) #[] #[]] 201]) λ live' l' K'=>∃ i x,l[i]?=some x/\x.id=id/\G i live' l'/\K'=K):=by
 refine Tq.of λ W h B0=>?_
 have B1:=Bt.oS (B0.flat) [1,0];have B2:=Bt.oS (B1.flat) [2,0,1];obtain⟨sa,scap,ra,rcap,bb,wb,sb,ms,es,st0,st,mt,sa',scap',ra',rcap',⟨ss,us,hC9,hf⟩,B3⟩:=B2.wk;clear hf B0 B1 B2;have B4:=Bt.oS (B3) [0,1,2,3,6,7,4,5,8,9];have B:=B4.app [_,_,_,_,_,_];clear B3 B4;obtain⟨R0,hR0⟩:∃ R0,star [Zd pb (X7 V txg root live (.slice sa l.length scap) (.slice ra V.ds.length rcap) (pV bb) (pV wk) (pV wb)) 82,Zw 125 15 sa l.length scap (Ye l),Zw 92 2 ra V.ds.length rcap (YU V.ds.length),ZV wb sb V.secs ms es,Zw 92 2 ra' V.ds.length rcap' (YU V.ds.length),Qe V st bb sb (txg+1) 40 mt K C]=R0:=⟨_,rfl⟩
 rw [hR0]at B;have HR0:=Lib.hid hR0;clear hR0
 have FIN:∀(w9:World)(live':Nd)(l':List Sn)(sa2:Option Addr)(scap2:Nat),Bt W h [R0,Zd wk (J8 st0 live' (.slice sa2 l'.length scap2) (.slice ra' V.ds.length rcap')) 188,Zw 125 15 sa2 l'.length scap2 (Ye l'),Zd b1 #[.int .i64 id] 3,Zd b2 #[.func (.func fa) #[] #[]] 201] w9 ->
   Zg W h (star [yL V pb txg root live l K wk false live' l' K C,star [Zd b1 #[.int .i64 id] 3,Zd b2 #[.func (.func fa) #[] #[]] 201]]) w9:=λ w9 live' l' sa2 scap2 B=>by
  rw [<-HR0.out]at B;have B3:=B.flat;have B4:=Bt.oS (B3) [0,1,2,3,6,7,4,5,8,9];have B7:=Bt.wk_shut (wk:=wk) (fresh:=false) (st0:=st0) (st:=st) (mt:=mt) (es:=es) (ra':=ra') (rcap':=rcap') (sa':=sa2) (scap':=scap2) (sa:=sa) (scap:=scap) (ra:=ra) (rcap:=rcap) (bb:=bb) (wb:=wb) (ms:=ms) (sb:=sb) ⟨ss,us,hC9,λ h=>by cases h⟩ B4;have B8:=Bt.oS (B7) [1,2,0];exact(((B8.app [_,_]).perm (List.Perm.swap ..)).app [_,_]).fin_at 0 rfl
 have hl:=sn.len;have F:=λ w (_:Zy 15 sa' l.length scap' (Ye l) w)=>jU live sa' scap' l (.slice ra' V.ds.length rcap') w id hl
 have HC:=λ args w=>Z9 (P:=Tryz.prog) qa args w
 haveI:=(Yo B (i:=2) rfl).1;clear us ss hC9;show Calls Tryz.prog 168 #[pV wk,pV b1,pV b2] W _;cases hfa:l.any (YW id)
 ·rw [hfa]at F;have F1:∀ w,[Zy 15 sa' l.length scap' (Ye l) w]->Fn 103 #[.agg (mC live (.slice sa' l.length scap') (.slice ra' V.ds.length rcap')),.int .i64 id] w (.tuple #[.int .i64 (Kb (KJ (YW id) l) 0),.bool false]):=λ w i=>F w i
  clear hfa
  go_in
  go_wp2_with fail;refine plZ (.q [0,1,2,3,4] (.x [5] (.q [6,7,8,9,10] .d))) ?_;simp only [Zk.run,pick,gZ,gS,gA,gN]
  (repeat(first|((with_reducible apply Zc);(·exact rfl);(·rintro _ ⟨gq,rfl⟩;exact ii);go_frame)|go_big_quiet_step (exact qZ)));refine nZ ?_
  rintro w1 hw1;have B1:Bt W h _ w1:=Ze hw1;haveI:Zy 15 sa' l.length scap' (Ye l) w1:=(Yo B1 (i:=2) rfl).1;clear hw1 B;go_wp2_with(with_reducible refine Fn.go λ g=>?_);dsimp only [Nx]
  (repeat go_big_quiet_step (exact qZ));refine nZ ?_
  refine Z4 ?_;intro w2 B2;clear B1;go_wp2_with fail;go_ret
  (first|apply Zv|apply Zu)
  exact⟨.inl ⟨_,live,l,K,by decide,rfl,KS.le.refl K,rfl⟩,FIN _ live l sa' scap' B2⟩
 ·obtain⟨i,x,hi,hx,hid⟩:∃(i:Nat)(x:Sn),Kb (KJ (YW id) l) 0=i/\l[i]?=some x/\x.id=id:=by
   refine⟨l.findIdx (YW id),_,?_,List.getElem?_eq_getElem (List.findIdx_lt_length_of_exists (by simpa using hfa)),?_⟩
   ·unfold KJ Kb;rw [hfa];simp
    try(intro h;omega)
   ·have:=List.findIdx_getElem (xs:=l) (p:=YW id) (w:=List.findIdx_lt_length_of_exists (by simpa using hfa));simpa [YW]using this
  rw [hfa,hi]at F;have F1:∀ w,[Zy 15 sa' l.length scap' (Ye l) w]->Fn 103 #[.agg (mC live (.slice sa' l.length scap') (.slice ra' V.ds.length rcap')),.int .i64 id] w (.tuple #[.int .i64 i,.bool true]):=λ w i=>F w i
  have AX:=A wk i st0 V.ds.length x sa' scap' ra' rcap' hx hid;have Hx:=Lib.hid hx;have Hid':=Lib.hid hid;clear hfa hi hx hid
  go_in
  go_wp2_with fail;refine plZ (.q [0,1,2,3,4] (.x [5] (.q [6,7,8,9,10] .d))) ?_;simp only [Zk.run,pick,gZ,gS,gA,gN]
  (repeat(first|((with_reducible apply Zc);(·exact rfl);(·rintro _ ⟨gq,rfl⟩;exact ii);go_frame)|go_big_quiet_step (exact qZ)));refine nZ ?_
  rintro w1 hw1;have B1:Bt W h _ w1:=Ze hw1;haveI:Zy 15 sa' l.length scap' (Ye l) w1:=(Yo B1 (i:=2) rfl).1;clear hw1 B;go_wp2_with(with_reducible refine Fn.go λ g=>?_);dsimp only [Nx]
  (repeat go_big_quiet_step (exact qZ));refine nZ ?_
  refine Z4 ?_;intro w2 B2;clear B1;go_wp2_with fail;have B3:=Bt.oS (B2) [1,2,0,3,4];have B4:=B3.app [_,_];clear B2 B3;refine(Bt.call AX).mono ?_;rintro e w3 ⟨v,q,rfl,⟨sa2,scap2,live',l',hg,rfl⟩,B5⟩;clear B4 AX;dsimp only;have HG:=Lib.hid hg;clear hg;go_wp2_with fail;go_ret
  (first|apply Zv|apply Zu)
  have B6:=Bt.oS (B5.flat) [2,0,1,3,4];exact⟨.inr ⟨live',l',K,rfl,KS.le.refl K,hG i x live' l' Hx.out HG.out,⟨i,x,Hx.out,Hid'.out,HG.out,rfl⟩,rfl⟩,FIN _ live' l' sa2 scap2 B6⟩
end
theorem Um.le{K:KS}{txg:Nat}{l:List Sn}(d:Um K txg l):∀(m j:Nat)(x y:Sn),l[j]?=some x->l[j+m+1]?=some y->x.txg<=y.txg
 |0,j,x,y,h1,h2=>d.up j x y h1 h2
 |m+1,j,x,y,h1,h2=>by
  obtain⟨z,hz⟩:∃ z,l[j+m+1]?=some z:=⟨_,List.getElem?_eq_getElem (by have:=(List.getElem?_eq_some_iff.1 h2).1;omega)⟩
  have:=d.le m j x z h1 hz;have:=d.up (j+m+1) z y hz h2;omega
theorem jk{α β:Type _}(f:α->β)(l:List α)(i:Nat):(l.map f).eraseIdx i=(l.eraseIdx i).map f:=List.ext_getElem? λ j=>by
 simp only [List.getElem?_eraseIdx,List.getElem?_map];split<;>rfl
theorem QV{α:Type _}{l:List α}{i k:Nat}{x:α}(h:(l.eraseIdx i)[k]?=some x):l[if k<i then k else k+1]?=some x:=by
 rw [List.getElem?_eraseIdx]at h;split at h<;>rename_i hk
 ·rw [if_pos hk];exact h
 ·rw [if_neg hk];exact h
theorem Um.erase{K:KS}{txg:Nat}{l:List Sn}(d:Um K txg l)(i:Nat):Um K txg (l.eraseIdx i):=by
 have hm:∀ x∈l.eraseIdx i,x∈l:=λ x hx=>List.mem_of_mem_eraseIdx hx
 refine⟨?_,λ x h=>d.id x (hm x h),λ x h=>d.txg x (hm x h),λ x h=>d.dir x (hm x h),λ k x y h1 h2=>?_,λ j k x y h1 h2 hjk=>?_⟩
 ·have:=List.length_eraseIdx_le l i;have:=d.len;omega
 ·have a:=QV h1;have b:=QV h2;rcases Nat.lt_or_ge k i with hk|hk
  ·rw [if_pos hk]at a
   by_cases h:k+1<i
   ·rw [if_pos h]at b;exact d.up k x y a b
   ·rw [if_neg h]at b;exact d.le 1 k x y a b
  ·rw [if_neg (by omega)]at a b;exact d.up (k+1) x y a b
 ·have a:=QV h1;have b:=QV h2;refine d.ne _ _ x y a b ?_;split<;>split<;>omega
section
variable{V:VD}{pb txg:Nat}{root:Nd}{C:Nat}{K0:KS}{wd:Wd}
theorem U2(ht:txg+1<=4294967295)(id:Int)(fa:FuncId)(qa:XB Tryz.prog fa=true)(G:Nd->List Sn->Nat->Nd->List Sn->Prop)(P:Wd->Prop)
  (A:∀(live:Nd)(l:List Sn),l.length<=4->∀(wk i st n:Nat)(x:Sn)(sa:Option Addr)(scap:Nat)(sl:Option Addr)(scl:Nat),l[i]?=some x->x.id=id->Tq fa #[pV wk,.int .i64 i] (star [Zd wk (J8 st live (.slice sa l.length scap) (.slice sl n scl)) 188,Zw 125 15 sa l.length scap (Ye l)]) λ _ q=>∃ sa2 scap2 live' l',G live l i live' l'/\q=star [Zd wk (J8 st live' (.slice sa2 l'.length scap2) (.slice sl n scl)) 188,Zw 125 15 sa2 l'.length scap2 (Ye l')])
  (hG:∀ K live l,qF K txg live l wd->∀ i x live' l',l[i]?=some x->x.id=id->G live l i live' l'->∃ wd',P wd'/\qF K txg live' l' wd')
  (hS:∀ K live l,qF K txg live l wd->∀ i x live' l',l[i]?=some x->G live l i live' l'->(∃ g,Ob K live' g)/\Um K txg l') :
  Tq 104 #[pV pb,.int .i64 id,.func (.func fa) #[] #[]] (Xn V pb txg root C K0 wd) (OpR V pb txg root C K0 wd P):=by
 refine Tq.of λ W h B0=>?_
 obtain⟨K,live,l,⟨hK0,ok⟩,B⟩:=B0.pos;clear B0;have CH:=λ b1 b2=>Ki (V:=V) (pb:=pb) (root:=root) ht ok.sn.len 168 (by kernel_rfl) #[pV b1,pV b2] (Zip (C:=C) ok.sn id b1 b2 fa qa (G live l) (A live l ok.sn.len) (hS K live l ok))
 have Ok:=Lib.hid ok;clear ok A hS
 go_in
 go_wp2_with fail;refine ZB (W:=W) (h:=h) (l:=[_,_,Kh V pb txg root live l K C]) ii ?_;rintro w1 B1;have B2:=Bt.oS (B1) [1,0,2];have B3:=B2.app [_,_];haveI B4:=(B3.perm (List.Perm.swap ..)).app [_,_];clear B B1 B2 B3;refine(Bt.call (CH _ _)).mono ?_;rintro e w2 ⟨v,q,rfl,hR,B5⟩;clear B4 CH;dsimp only;rcases hR with ⟨e,he,rfl,rfl⟩|⟨live',l',K',rfl,hK,⟨i,x,hx,hi,hg,rfl⟩,rfl⟩
 ·go_wp2_with fail;go_ret
  (first|apply Zv|apply Zu)
  exact⟨.inl ⟨e,he,rfl,rfl⟩,(B5.flat.head λ h q=>⟨K,live,l,⟨hK0,Ok.out⟩,q⟩).fin_at 0 rfl⟩
 ·have Hx:=Lib.hid hx;have Hi:=Lib.hid hi;have HG:=Lib.hid hg;clear hx hi hg;go_wp2_with fail;go_ret;obtain⟨wd',hp,wo⟩:=hG K' live l Ok.out i x live' l' Hx.out Hi.out HG.out
  (first|apply Zv|apply Zu)
  exact⟨.inr ⟨wd',rfl,hp,rfl⟩,(B5.flat.head (q:=Xn V pb txg root C K0 wd') λ h q=>⟨K',live',l',⟨hK0,wo⟩,q⟩).fin_at 0 rfl⟩
theorem qF.at_{K:KS}{live:Nd}{l:List Sn}(ok:qF K txg live l wd){i:Nat}{x:Sn}(hx:l[i]?=some x):∃ T,wd.snaps[i]?=some (x.id,T)/\jX K x.dir T:=by
 have h:=congrArg (λ z:List Int=>z[i]?) ok.ids;simp only [List.getElem?_map,hx,Option.map_some]at h;cases hy:wd.snaps[i]? with
 |none=>rw [hy]at h;cases h
 |some y =>
  rw [hy]at h;simp at h;exact⟨y.2,by rw [h],ok.dirs i x y hx hy⟩
def DeO(id:Int)(wd wd':Wd):Prop:=∃(i:Nat)(T:Yt),wd.snaps[i]?=some (id,T)/\wd'={ wd with snaps:=wd.snaps.eraseIdx i }
def RoO(id:Int)(wd wd':Wd):Prop:=∃(i:Nat)(T:Yt),wd.snaps[i]?=some (id,T)/\wd'={ wd with live:=T }
theorem Zjm(live:Nd)(l:List Sn)(hl:l.length<=4)(wk i st n:Nat)(x:Sn)(sa:Option Addr)(scap:Nat)(sl:Option Addr)(scl:Nat)(hx:l[i]?=some x) :
  Tq 105 #[pV wk,.int .i64 i] (star [Zd wk (J8 st live (.slice sa l.length scap) (.slice sl n scl)) 188,Zw 125 15 sa l.length scap (Ye l)]) λ _ q=>∃ sa2 scap2 live' l',(live'=live/\l'=l.eraseIdx i)/\q=star [Zd wk (J8 st live' (.slice sa2 l'.length scap2) (.slice sl n scl)) 188,Zw 125 15 sa2 l'.length scap2 (Ye l')]:=by
 have hil:=(List.getElem?_eq_some_iff.1 hx).1;have D:=Zjy sa l.length scap i (Ye l) hl hil (ZdT l);have e1:(l.eraseIdx i).length=l.length-1:=by rw [List.length_eraseIdx];simp [hil]
 have e2:Ye (l.eraseIdx i)=(Ye l).eraseIdx i:=by simp only [Ye,jk]
 rw [<-e2,<- e1]at D;clear hx e1 e2;refine Tq.of λ W h B0=>?_
 have B:=B0.flat;clear B0;simp only [List.append_nil]at B
 go_in
 go_wp2_with fail;refine(Bt.call D).mono ?_;rintro e w1 ⟨v,q,rfl,⟨rfl,rfl⟩,B1⟩;clear B D;dsimp only;go_wp2_with fail;go_end0;have B2:Bt W h [Zd wk (J8 st live (.slice sa (l.eraseIdx i).length scap) (.slice sl n scl)) 188,_] (w1.setCell ⟨wk,14,none⟩ (.slice sa (l.eraseIdx i).length scap)):=ii;exact⟨_,_,rfl,⟨sa,scap,live,_,⟨rfl,rfl⟩,rfl⟩,(B2.app [_,_]).fin_at 0 rfl⟩
set_option maxRecDepth 512 in
theorem Za0(ht:txg+1<=4294967295)(id:Int) :
  Tq 57 #[pV pb,.int .i64 id] (Xn V pb txg root C K0 wd) (OpR V pb txg root C K0 wd (DeO id wd)):=by
 have F:=U2 (V:=V) (pb:=pb) (root:=root) (C:=C) (K0:=K0) (wd:=wd) ht id 105 (by kernel_rfl) (λ live l i live' l'=>live'=live/\l'=l.eraseIdx i) (DeO id wd) (λ live l hl wk i st n x sa scap sl scl hx _=>Zjm live l hl wk i st n x sa scap sl scl hx)
  (λ K live l ok i x live' l' hx hi ⟨h1,h2⟩=>by
   subst h1 h2;obtain⟨T,hT,_⟩:=ok.at_ hx;rw [hi]at hT;refine⟨_,⟨i,T,hT,rfl⟩,ok.live,?_,λ k x y h1 h2=>?_,ok.sn.erase i⟩
   ·rw [<-jk,<- jk,ok.ids]
   ·exact ok.dirs _ x y (QV h1) (QV h2))
  (λ K live l ok i x live' l' hx ⟨h1,h2⟩=>by subst h1 h2;exact⟨ok.live.ob,ok.sn.erase i⟩)
 refine Tq.of λ W h B=>?_
 go_in
 go_wp2_with fail;refine(Bt.call F).mono ?_;rintro e w1 ⟨v,q,rfl,hR,B1⟩;dsimp only;go_wp2_with fail;go_ret
 (first|apply Zv|apply Zu)
 exact⟨hR,Bt.fin⟩
theorem ZjG(live:Nd)(l:List Sn)(hl:l.length<=4)(wk i st n:Nat)(x:Sn)(sa:Option Addr)(scap:Nat)(sl:Option Addr)(scl:Nat)(hx:l[i]?=some x) :
  Tq 107 #[pV wk,.int .i64 i] (star [Zd wk (J8 st live (.slice sa l.length scap) (.slice sl n scl)) 188,Zw 125 15 sa l.length scap (Ye l)]) λ _ q=>∃ sa2 scap2 live' l',(l[i]?=some x/\live'=x.dir/\l'=l)/\q=star [Zd wk (J8 st live' (.slice sa2 l'.length scap2) (.slice sl n scl)) 188,Zw 125 15 sa2 l'.length scap2 (Ye l')]:=by
 have hil:=(List.getElem?_eq_some_iff.1 hx).1;refine Tq.of λ W h B0=>?_
 have B:=B0.flat;clear B0;simp only [List.append_nil]at B;obtain⟨b,o,rfl,hb,hc⟩:=(Yo B (i:=1) rfl).1.cells i x.cs (by simp [Ye,hx]);have Hx:=Lib.hid hx;clear hx
 haveI:ZJ b (o+i*15+2) (ndL x.dir).toArray 13 W:=⟨rfl,hb,λ j v e=>by
  have:=hc (j+2) v (by simpa [Sn.cs]using e)
  rw [show o+i*15+2+j=o+i*15+(j+2) by omega];exact this⟩
 go_in
 go_wp2_with(first|((with_reducible apply Za);(·exact rfl);(·exact ii))|((with_reducible apply Zb);(·exact rfl);(·exact rfl);(·exact ii)));go_end0;refine⟨_,_,rfl,⟨some ⟨b,o,none⟩,scap,x.dir,l,⟨Hx.out,rfl,rfl⟩,rfl⟩,Yz (W:=W) (h:=h) (l:=[Zd wk (J8 st x.dir (.slice (some ⟨b,o,none⟩) l.length scap) (.slice sl n scl)) 188,Zw 125 15 (some ⟨b,o,none⟩) l.length scap (Ye l)]) ii λ w9 B9=>(B9.app [_,_]).fin_at 0 rfl⟩
set_option maxRecDepth 512 in
theorem Vz(ht:txg+1<=4294967295)(id:Int) :
  Tq 58 #[pV pb,.int .i64 id] (Xn V pb txg root C K0 wd) (OpR V pb txg root C K0 wd (RoO id wd)):=by
 have F:=U2 (V:=V) (pb:=pb) (root:=root) (C:=C) (K0:=K0) (wd:=wd) ht id 107 (by kernel_rfl) (λ live l i live' l'=>∃ x,l[i]?=some x/\live'=x.dir/\l'=l) (RoO id wd) (λ live l hl wk i st n x sa scap sl scl hx _=>(ZjG live l hl wk i st n x sa scap sl scl hx).mono λ v q ⟨a,b,c,d,e,f⟩=>⟨q,⟨a,b,c,d,⟨x,e⟩,f⟩,λ _ h=>h⟩)
  (λ K live l ok i x live' l' hx hi ⟨x',h0,h1,h2⟩=>by
   subst h1 h2;rw [hx]at h0;cases h0;obtain⟨T,hT,dT⟩:=ok.at_ hx;rw [hi]at hT
   exact⟨_,⟨i,T,hT,rfl⟩,dT,ok.ids,ok.dirs,ok.sn⟩)
  (λ K live l ok i x live' l' hx ⟨x',h0,h1,h2⟩=>by subst h1 h2;exact⟨ok.sn.dir x' (List.mem_of_getElem? h0),ok.sn⟩)
 refine Tq.of λ W h B=>?_
 go_in
 go_wp2_with fail;refine(Bt.call F).mono ?_;rintro e w1 ⟨v,q,rfl,hR,B1⟩;dsimp only;go_wp2_with fail;go_ret
 (first|apply Zv|apply Zu)
 exact⟨hR,Bt.fin⟩
end
theorem Qz{fn:Func}{u p v:Tmp}(h:fn.results=#[.tmp u,.cell p 52,.tmp v])(tmps:Array Value)(w:World)(b:Nat)(cs:Array Value)(hp:tmps.getD p undef=.pointer (some ⟨b,0,none⟩))(hs:ZJ b 0 cs 13 w) :
  (results fn tmps).run Tryz.prog w=.ok (.tuple #[tmps.getD u undef,.agg cs,tmps.getD v undef]) w:=by
 have hp':tmps[p]?.getD undef=.pointer (some ⟨b,0,none⟩):=by simpa using hp
 unfold results;rw [h];simp [hp',asAddr,Ys (P:=Tryz.prog) w b 0 13 cs _ _ Tryz.underlying52 rfl (by kernel_rfl)]
theorem ZaK{α:Type _}(l:List α)(is:List Nat)(e:is.isPerm (List.range l.length)=true):l.Perm (Us l is):=by
 rw [V4];have h1:=(List.isPerm_iff.1 e).filterMap λ i=>l[i]?
 rw [jh]at h1;exact h1.symm
def Zko(live:Nd)(l:List Sn)(snap:Int)(wk:Nat)(v:Value):Prop:=((snap=-1/\v=.tuple #[pV wk,.agg live.cs,.int .i64 0])\/(snap≠-1/\∃(i:Nat)(x:Sn),l[i]?=some x/\x.id=snap/\v=.tuple #[pV wk,.agg x.dir.cs,.int .i64 0])\/(snap≠-1/\l.any (YW snap)=false/\v=.tuple #[.pointer none,.agg Nd.none.cs,.int .i64 7]))
section
variable{V:VD}{pb txg:Nat}{root live:Nd}{l:List Sn}{K:KS}{C:Nat}
theorem Bt.wk_po{W w:World}{h:Hl}{L:List SP}{wk:Nat}{fresh:Bool}{live':Nd}{l':List Sn}{K':KS}(hK:K.le K')(B:Bt W h (yL V pb txg root live l K wk fresh live' l' K' C::L) w):Bt W h (Kh V pb txg root live l K C::L) w:=by
 have key:∀ {w:World} {h:Hl},Has w h->yL V pb txg root live l K wk fresh live' l' K' C h->Kh V pb txg root live l K C h:=λ {w h} i s=>by
  obtain⟨sa,scap,ra,rcap,bb,wb,sb,ms,es,st0,st,mt,sa',scap',ra',rcap',⟨ss,us,hC9,_⟩,s⟩:=s;have s1:=s.perm (l':=[_,_,_,_,_,_,_,_]) (List.perm_append_comm (l₁:=[_,_,_,_,_,_,_]) (l₂:=[_]));obtain⟨h0,⟨dn,N,F,ms',es',ok,sp⟩,b,c⟩:=s1.focus (i:=0) rfl;have s2:=c (star (StL V st bb sb (txg+1) 40 mt dn C N F ms' es')) h0 h sp b λ hk h1 h2=>⟨h1,h2⟩
  have s3:=star.flat s2;simp only [StL,List.cons_append,List.nil_append]at s3;have s4:=s3.perm (l':=_) (ZaK _ [5,6,7,8,2,3,0,1,4,9,10,11] (by kernel_rfl));simp only [Us,List.getElem?_cons_zero,List.getElem?_cons_succ]at s4;have s5:=star.app (l:=[_,_,_,_,_,_]) s4;obtain⟨h5,a5,b5⟩:=s5.get (i:=0) rfl;exact⟨sa,scap,ra,rcap,some ⟨bb,0,none⟩,some ⟨wk,0,none⟩,some ⟨wb,0,none⟩,wb,sb,N,F,ms,es,⟨⟨ss,⟨λ p t hp=>ok.kept.held p t (hK p t hp),us,λ p q t t' hp hq=>ok.kept.apart p q t t' (hK p t hp) (hK q t' hq)⟩,ok.bd,ok.ring,ok.ro⟩,hC9⟩,.inr ⟨wk,rfl,rfl⟩,star.sub a5 b5⟩
 obtain⟨m,h1,i,x,s⟩:=B.t;obtain⟨ha,hb,a,b,c,d,e⟩:=s;exact⟨m,h1,i,x,ha,hb,key (i.sub c) a,b,c,d,e⟩
theorem UA(ht:txg<=4294967294)(hl:l.length<=4)(snap:Int) :
  Tq 92 #[pV pb,.int .i64 snap] (Kh V pb txg root live l K C) λ v q=>∃ wk,Zko live l snap wk v/\q=yL V pb txg root live l K wk true live l K C:=by
 have BG:=ZaW (V:=V) (pb:=pb) (root:=root) (live:=live) (K:=K) (C:=C) (txg+1) rfl ht hl;refine Tq.of λ W h B0=>?_
 by_cases hs:snap=-1
 ·subst hs
  go_in
  go_wp2_with fail;refine(Bt.call BG).mono ?_;rintro e w1 ⟨v,q,rfl,⟨wk,rfl,rfl⟩,B1⟩;clear B0 BG;dsimp only;obtain⟨sa,scap,ra,rcap,bb,wb,sb,ms,es,st0,st,mt,sa',scap',ra',rcap',hf,B3⟩:=(B1.perm (List.Perm.swap ..)).wk;have B4:=Bt.oS (B3) [4,5,8,0,1,2,3,6,7];clear B1 B3
  have FIN:∀(w9:World)(cc:Array Value),Bt W h [Zd wk (J8 st0 live (.slice sa' l.length scap') (.slice ra' V.ds.length rcap')) 188,Zw 125 15 sa' l.length scap' (Ye l),Zd W.heap.size cc 52,Zd pb (X7 V txg root live (.slice sa l.length scap) (.slice ra V.ds.length rcap) (pV bb) (pV wk) (pV wb)) 82,Zw 125 15 sa l.length scap (Ye l),Zw 92 2 ra V.ds.length rcap (YU V.ds.length),ZV wb sb V.secs ms es,Zw 92 2 ra' V.ds.length rcap' (YU V.ds.length),Qe V st bb sb (txg+1) 40 mt K C] w9->Zg W h (yL V pb txg root live l K wk true live l K C) w9:=λ w9 cc B=>by
   have B5:=Bt.oS (B) [3,4,5,6,0,1,7,8,2];exact(Bt.wk_shut (wk:=wk) (fresh:=true) (st0:=st0) (st:=st) (mt:=mt) (es:=es) (ra':=ra') (rcap':=rcap') (sa':=sa') (scap':=scap') (sa:=sa) (scap:=scap) (ra:=ra) (rcap:=rcap) (bb:=bb) (wb:=wb) (ms:=ms) (sb:=sb) hf B5).fin_at 0 rfl
  go_wp2_with fail;refine plZ (.q [0,1,2,3,4,5,6] (.x [7] (.q [8] .d))) ?_;simp only [Zk.run,pick,gZ,gS,gA,gN]
  (repeat(first|((with_reducible apply Zc);(·exact rfl);(·rintro _ ⟨gq,rfl⟩;exact ii);go_frame)|go_big_quiet_step (exact qZ)));refine nZ ?_
  refine Z4 ?_;intro w2 B5;clear B4;go_wp2_with((with_reducible apply Zb);(·exact rfl);(·exact rfl);(·exact ii));dsimp only [Nx]
  (repeat go_big_quiet_step (exact qZ));refine nZ ?_
  refine Z4 ?_;intro w3 B6;clear B5;go_wp2_with fail;refine bodyPost_ret (Qz rfl _ _ _ _ rfl ii) rfl ?_;exact⟨_,_,rfl,⟨wk,.inl ⟨rfl,rfl⟩,rfl⟩,FIN _ _ B6⟩
 ·have hs1:(snap==-1)=false:=by simpa using hs
  cases hfa:l.any (YW snap)
  ·have F:=λ live sa' scap' st w (_:Zy 15 sa' l.length scap' (Ye l) w)=>jU live sa' scap' l st w snap hl
   rw [hfa]at F;have Hfa:=Lib.hid hfa;clear hfa
   go_in
   go_wp2_with fail;refine(Bt.call BG).mono ?_;rintro e w1 ⟨v,q,rfl,⟨wk,rfl,rfl⟩,B1⟩;clear B0 BG;dsimp only;obtain⟨sa,scap,ra,rcap,bb,wb,sb,ms,es,st0,st,mt,sa',scap',ra',rcap',hf,B3⟩:=(B1.perm (List.Perm.swap ..)).wk;have B4:=Bt.oS (B3) [4,5,8,0,1,2,3,6,7];clear B1 B3
   have FIN:∀(w9:World)(cc:Array Value),Bt W h [Zd wk (J8 st0 live (.slice sa' l.length scap') (.slice ra' V.ds.length rcap')) 188,Zw 125 15 sa' l.length scap' (Ye l),Zd W.heap.size cc 52,Zd pb (X7 V txg root live (.slice sa l.length scap) (.slice ra V.ds.length rcap) (pV bb) (pV wk) (pV wb)) 82,Zw 125 15 sa l.length scap (Ye l),Zw 92 2 ra V.ds.length rcap (YU V.ds.length),ZV wb sb V.secs ms es,Zw 92 2 ra' V.ds.length rcap' (YU V.ds.length),Qe V st bb sb (txg+1) 40 mt K C] w9->Zg W h (yL V pb txg root live l K wk true live l K C) w9:=λ w9 cc B=>by
    have B5:=Bt.oS (B) [3,4,5,6,0,1,7,8,2];exact(Bt.wk_shut (wk:=wk) (fresh:=true) (st0:=st0) (st:=st) (mt:=mt) (es:=es) (ra':=ra') (rcap':=rcap') (sa':=sa') (scap':=scap') (sa:=sa) (scap:=scap) (ra:=ra) (rcap:=rcap) (bb:=bb) (wb:=wb) (ms:=ms) (sb:=sb) hf B5).fin_at 0 rfl
   have F1:∀ w,[Zy 15 sa' l.length scap' (Ye l) w]->Fn 103 #[.agg (mC live (.slice sa' l.length scap') (.slice ra' V.ds.length rcap')),.int .i64 snap] w (.tuple #[.int .i64 (Kb (KJ (YW snap) l) 0),.bool false]):=λ w i=>F live sa' scap' _ w i
   haveI:=(Yo B4 (i:=1) rfl).1;clear F;go_wp2_with(first|(with_reducible refine Fn.go λ g=>?_)|((with_reducible apply Za);(·exact rfl);(·exact ii))|((with_reducible apply Zb);(·exact rfl);(·exact rfl);(·exact ii)));refine bodyPost_ret (Qz rfl _ _ _ _ rfl ii) rfl ?_;exact⟨_,_,rfl,⟨wk,.inr (.inr ⟨hs,Hfa.out,rfl⟩),rfl⟩,Yz (W:=W) (h:=h) (l:=[_,_,_,_,_,_,_,_,_]) ii λ w9 B9=>FIN w9 _ B9⟩
  ·obtain⟨i,x,hi,hx,hid⟩:∃(i:Nat)(x:Sn),Kb (KJ (YW snap) l) 0=i/\l[i]?=some x/\x.id=snap:=by
    refine⟨l.findIdx (YW snap),_,?_,List.getElem?_eq_getElem (List.findIdx_lt_length_of_exists (by simpa using hfa)),?_⟩
    ·unfold KJ Kb;rw [hfa];simp
     try(intro h;omega)
    ·have:=List.findIdx_getElem (xs:=l) (p:=YW snap) (w:=List.findIdx_lt_length_of_exists (by simpa using hfa));simpa [YW]using this
   have F:=λ live sa' scap' st w (_:Zy 15 sa' l.length scap' (Ye l) w)=>jU live sa' scap' l st w snap hl
   rw [hfa,hi]at F;have Hx:=Lib.hid hx;have Hi:=Lib.hid hid;have hil:=(List.getElem?_eq_some_iff.1 hx).1;clear hfa hi hx hid
   go_in
   go_wp2_with fail;refine(Bt.call BG).mono ?_;rintro e w1 ⟨v,q,rfl,⟨wk,rfl,rfl⟩,B1⟩;clear B0 BG;dsimp only;obtain⟨sa,scap,ra,rcap,bb,wb,sb,ms,es,st0,st,mt,sa',scap',ra',rcap',hf,B3⟩:=(B1.perm (List.Perm.swap ..)).wk;have B4:=Bt.oS (B3) [4,5,8,0,1,2,3,6,7];clear B1 B3
   have FIN:∀(w9:World)(cc:Array Value),Bt W h [Zd wk (J8 st0 live (.slice sa' l.length scap') (.slice ra' V.ds.length rcap')) 188,Zw 125 15 sa' l.length scap' (Ye l),Zd W.heap.size cc 52,Zd pb (X7 V txg root live (.slice sa l.length scap) (.slice ra V.ds.length rcap) (pV bb) (pV wk) (pV wb)) 82,Zw 125 15 sa l.length scap (Ye l),Zw 92 2 ra V.ds.length rcap (YU V.ds.length),ZV wb sb V.secs ms es,Zw 92 2 ra' V.ds.length rcap' (YU V.ds.length),Qe V st bb sb (txg+1) 40 mt K C] w9->Zg W h (yL V pb txg root live l K wk true live l K C) w9:=λ w9 cc B=>by
    have B5:=Bt.oS (B) [3,4,5,6,0,1,7,8,2];exact(Bt.wk_shut (wk:=wk) (fresh:=true) (st0:=st0) (st:=st) (mt:=mt) (es:=es) (ra':=ra') (rcap':=rcap') (sa':=sa') (scap':=scap') (sa:=sa) (scap:=scap) (ra:=ra) (rcap:=rcap) (bb:=bb) (wb:=wb) (ms:=ms) (sb:=sb) hf B5).fin_at 0 rfl
   have F1:∀ w,[Zy 15 sa' l.length scap' (Ye l) w]->Fn 103 #[.agg (mC live (.slice sa' l.length scap') (.slice ra' V.ds.length rcap')),.int .i64 snap] w (.tuple #[.int .i64 i,.bool true]):=λ w i=>F live sa' scap' _ w i
   haveI:=(Yo B4 (i:=1) rfl).1;obtain⟨b,o,rfl,hb,hc⟩:=(Yo B4 (i:=1) rfl).1.cells i x.cs (by simp [Ye,Hx.out])
   haveI:ZJ b (o+i*15+2) (ndL x.dir).toArray 13 w1:=⟨rfl,hb,λ j v e=>by
    have:=hc (j+2) v (by simpa [Sn.cs]using e)
    rw [show o+i*15+2+j=o+i*15+(j+2) by omega];exact this⟩
   clear F hc;go_wp2_with(first|(with_reducible refine Fn.go λ g=>?_)|((with_reducible apply Za);(·exact rfl);(·exact ii)));refine plZ (.q [0,1,2,3,4,5,6,7,8,9,10] (.x [11] (.q [12] .d))) ?_;simp only [Zk.run,pick,gZ,gS,gA,gN]
   (repeat(first|((with_reducible apply Zc);(·exact rfl);(·rintro _ ⟨gq,rfl⟩;exact ii);go_frame)|go_big_quiet_step (exact qZ)));refine nZ ?_
   refine Z4 ?_;intro w2 B5;clear B4;go_wp2_with((with_reducible apply Zb);(·exact rfl);(·exact rfl);(·exact ii));dsimp only [Nx]
   (repeat go_big_quiet_step (exact qZ));refine nZ ?_
   refine Z4 ?_;intro w3 B6;clear B5;go_wp2_with fail;refine bodyPost_ret (Qz rfl _ _ _ _ rfl ii) rfl ?_;exact⟨_,_,rfl,⟨wk,.inr (.inl ⟨hs,i,x,Hx.out,Hi.out,rfl⟩),rfl⟩,FIN _ _ B6⟩
end
end Go.Proofs.YtlfjdjndhcmliaaGreatDoor
