/- WholeOld, part 35. -/
import Derived.Test.YtlfjdjndhcmliaaGreatDoorA34
import Derived.Test.YtlfjdjndhcmliaaGreatDoorA24
import Derived.Test.YtlfjdjndhcmliaaGreatDoorA06
import Derived.Test.YtlfjdjndhcmliaaGreatDoorA14
import Derived.Test.YtlfjdjndhcmliaaGreatDoorA18
set_option maxRecDepth 100000
set_option maxHeartbeats 4000000
set_option linter.all false
namespace Go.Proofs.YtlfjdjndhcmliaaGreatDoor
open Go.RowKit Go.Sort
def UF(wd:Wd)(snap:Int)(T:Yt):Prop:=(snap=-1/\T=wd.live)\/(snap≠-1/\∃ i:Nat,wd.snaps[i]?=some (snap,T))
def ZmO(V:VD)(pb txg:Nat)(root live:Nd)(l:List Sn)(K:KS)(C:Nat)(o:Option ByteArray)(v:Value)(q:SP):Prop :=
 (o=none/\(∃ w,v=.tuple #[w,.agg Nd.none.cs,.int .i64 7])/\q=Kh V pb txg root live l K C)\/∃ wk m t,o=some t/\v=.tuple #[pV wk,.agg m.cs,.int .i64 0]/\yG K m t/\q=yL V pb txg root live l K wk true live l K C
section
variable{V:VD}{pb txg:Nat}{root live:Nd}{l:List Sn}{K:KS}{C:Nat}{wd:Wd}
theorem qF.dirOf(ok:qF K txg live l wd){snap:Int}{T:Yt}(hT:UF wd snap T){wk:Nat}{v:Value}(h:Zko live l snap wk v):∃ dn,v=.tuple #[pV wk,.agg dn.cs,.int .i64 0]/\jX K dn T:=by
 have hany:snap≠-1->∃(i:Nat)(x:Sn),l[i]?=some x/\x.id=snap/\jX K x.dir T:=λ hs=>by
  rcases hT with ⟨h1,_⟩|⟨_,i,h2⟩
  ·exact absurd h1 hs
  ·have e:=congrArg (λ z:List Int=>z[i]?) ok.ids;simp only [List.getElem?_map,h2,Option.map_some]at e;cases hx:l[i]? with
   |none=>rw [hx]at e;cases e
   |some x =>
    rw [hx]at e;simp at e;exact⟨i,x,hx,e,ok.dirs i x _ hx h2⟩
 rcases h with ⟨h1,h2⟩|⟨h1,j,y,hy,hi,h2⟩|⟨h1,h2,h3⟩
 ·rcases hT with ⟨_,rfl⟩|⟨h3,_⟩
  ·exact⟨live,h2,ok.live⟩
  ·exact absurd h1 h3
 ·obtain⟨i,x,hx,he,hd⟩:=hany h1
  have:i=j:=by
   rcases Nat.lt_trichotomy i j with h|h|h
   ·exact absurd (he.trans hi.symm) (ok.sn.ne i j x y hx hy h)
   ·exact h
   ·exact absurd (hi.trans he.symm) (ok.sn.ne j i y x hy hx h)
  subst this;have e2:x=y:=by rw [hx]at hy;exact Option.some.inj hy
  rw [e2]at hd;exact⟨y.dir,h2,hd⟩
 ·obtain⟨i,x,hx,he,_⟩:=hany h1;have:=List.any_eq_false.1 h2 x (List.mem_of_getElem? hx);simp [YW]at this;exact absurd he this
theorem Zbl(ht:txg+1<=4294967295)(ok:qF K txg live l wd)(snap:Int)(T:Yt)(hT:UF wd snap T)(k:Nat)(hk:k<32) :
  Tq 91 #[pV pb,.int .i64 snap,.int .i64 k] (Kh V pb txg root live l K C) (ZmO V pb txg root live l K C (T k)):=by
 have LK:=UA (V:=V) (pb:=pb) (root:=root) (live:=live) (K:=K) (C:=C) (by omega:txg<=4294967294) ok.sn.len snap
 have M:∀ w,[In (Kh V pb txg root live l K C) w]->Fn 98 #[pV pb,.int .i64 k] w (.int .i64 0):=λ w i=>by
  have:=Vo (k:Int) w i;rw [show Vt (k:Int)=0 from if_pos (by omega)]at this;exact this
 refine Tq.of λ W h B0=>?_
 go_in
 go_wp2_with(with_reducible refine Fn.go λ g=>?_);refine(Bt.call LK).mono ?_;rintro e w1 ⟨v,q,rfl,⟨wk,hL,rfl⟩,B1⟩;obtain⟨dn,rfl,dT⟩:=ok.dirOf hT hL;obtain⟨D,dr,hD⟩:=dT;obtain⟨sa,scap,ra,rcap,bb,wb,sb,ms,es,st0,st,mt,sa',scap',ra',rcap',⟨ss,us,hC9,hf⟩,B3⟩:=(B1.perm (List.Perm.swap ..)).wk;obtain⟨rfl,rfl⟩:=hf rfl;have B4:=Bt.oS (B3) [8,4,7,0,1,2,3,5,6];have TS:=Qn (V:=V) (st:=st0) (bb:=bb) (sb:=sb) (txg:=txg+1) (keep:=40) (meta_:=false) (by omega) (by omega);have G:=Zaj TS K C dr k hk;obtain⟨nd,hnd⟩:∃ nd,(D k).getD Nd.none=nd:=⟨_,rfl⟩
 rw [hnd]at G;clear B0 B1 B3 LK hL dr M TS;dsimp only;go_wp2_with((with_reducible apply Zb);(·exact rfl);(·exact rfl);(·exact ii));refine Yn (W:=W) (h:=h) (l:=[Zd _ dn.cs 52,Zd W.heap.size Nd.none.cs 52,Zd wk (J8 st0 live (.slice sa' l.length scap') (.slice ra' V.ds.length rcap')) 188,Qe V st0 bb sb (txg+1) 40 false K C,Zd pb (X7 V txg root live (.slice sa l.length scap) (.slice ra V.ds.length rcap) (pV bb) (pV wk) (pV wb)) 82,Zw 125 15 sa l.length scap (Ye l),Zw 92 2 ra V.ds.length rcap (YU V.ds.length),ZV wb sb V.secs ms es,Zw 125 15 sa' l.length scap' (Ye l),Zw 92 2 ra' V.ds.length rcap' (YU V.ds.length)]) ii ?_;rintro w2 B5;have B6:=Bt.oS (B5) [4,5,6,7,8,9,0,1,2,3];have B7:=B6.app [_,_,_,_,_,_];obtain⟨R0,hR0⟩:∃ R0,star [Zd pb (X7 V txg root live (.slice sa l.length scap) (.slice ra V.ds.length rcap) (pV bb) (pV wk) (pV wb)) 82,Zw 125 15 sa l.length scap (Ye l),Zw 92 2 ra V.ds.length rcap (YU V.ds.length),ZV wb sb V.secs ms es,Zw 125 15 sa' l.length scap' (Ye l),Zw 92 2 ra' V.ds.length rcap' (YU V.ds.length)]=R0:=⟨_,rfl⟩
 rw [hR0]at B7;have HR0:=Lib.hid hR0;clear hR0 B4 B5 B6
 have FIN:∀(w9:World),Bt W h [R0,Zd wk (J8 st0 live (.slice sa' l.length scap') (.slice ra' V.ds.length rcap')) 188,Qe V st0 bb sb (txg+1) 40 false K C] w9->Bt W h [yL V pb txg root live l K wk true live l K C] w9:=λ w9 B=>by
  rw [<-HR0.out]at B;have B3:=B.flat;have B4:=Bt.oS (B3) [0,1,2,3,6,4,5,7];exact Bt.wk_shut (wk:=wk) (fresh:=true) (st0:=st0) (st:=st0) (mt:=false) (es:=es) (ra':=ra') (rcap':=rcap') (sa':=sa') (scap':=scap') (sa:=sa) (scap:=scap) (ra:=ra) (rcap:=rcap) (bb:=bb) (wb:=wb) (ms:=ms) (sb:=sb) ⟨ss,us,hC9,λ _=>⟨rfl,rfl⟩⟩ B4
 clear ss us hC9
 go_cut [13,14,12] (λ pv ov ev wx=>∃ b13,pv=pV b13/\ov=.bool (D k).isSome/\ev=.int .i64 0/\Bt W h [Zd b13 nd.cs 52,Zd W.heap.size Nd.none.cs 52,R0,Zd wk (J8 st0 live (.slice sa' l.length scap') (.slice ra' V.ds.length rcap')) 188,Qe V st0 bb sb (txg+1) 40 false K C] wx)
 case first =>
  refine plZ (.q [0,1,2,3,4,5,6] (.y 7 12 (.q [8,9] (.f [10,11] (.g 12 (.x [13] (.q [14,15] .d))))) (.x [7] (.q [8,9] (.f [10,11] (.x [13] (.q [14,15] .d))))))) ?_;simp only [Zk.run,pick,gZ,gS,gA,gN]
  (repeat(first|((with_reducible apply Zc);(·exact rfl);(·rintro _ ⟨gq,rfl⟩;exact ii);go_frame)|go_big_quiet_step (exact qZ)));refine nZ ?_
  refine⟨?_,?_⟩
  ·refine Z4 ?_;intro w3 C1;clear B7;go_wp2_with fail;refine(Bt.call G).mono ?_;rintro e w4 ⟨v,q,rfl,⟨rfl,rfl⟩,C2⟩;clear C1;dsimp only;go_wp2_with fail;dsimp only [Nx]
   (repeat go_big_quiet_step (exact qZ));refine nZ ?_
   (repeat go_big_quiet_step (exact qZ));refine nZ ?_
   rintro w5 hw5;have C3:Bt W h _ w5:=Ze hw5;clear C2;go_wp2_with fail;dsimp only [Nx];refine⟨Kw hw5 _,?_⟩;clear hw5;refine Z4 ?_;intro w6 C4;clear C3;go_wp2_with((with_reducible apply Zb);(·exact rfl);(·exact rfl);(·exact ii));dsimp only [Nx]
   (repeat go_big_quiet_step (exact qZ));refine nZ ?_
   rintro w7 hw7;have C5:Bt W h [_,R0,_,_,_,_] w7:=Ze hw7;clear hw7 C4;go_wp2_with fail
   go_meet
   have C6:=Bt.oS (C5) [2,0,3,1,4,5];exact⟨_,rfl,rfl,rfl,C6.drop⟩
  ·rintro w3 hw3;have C1:Bt W h _ w3:=Ze hw3;clear B7;go_wp2_with fail;dsimp only [Nx];refine⟨Kw hw3 _,?_⟩;clear hw3;refine Z4 ?_;intro w4 C2;clear C1;go_wp2_with fail;refine(Bt.call G).mono ?_;rintro e w5 ⟨v,q,rfl,⟨rfl,rfl⟩,C3⟩;clear C2;dsimp only;go_wp2_with fail;dsimp only [Nx]
   (repeat go_big_quiet_step (exact qZ));refine nZ ?_
   (repeat go_big_quiet_step (exact qZ));refine nZ ?_
   refine Z4 ?_;intro w6 C4;clear C3;go_wp2_with((with_reducible apply Zb);(·exact rfl);(·exact rfl);(·exact ii));dsimp only [Nx]
   (repeat go_big_quiet_step (exact qZ));refine nZ ?_
   rintro w7 hw7;have C5:Bt W h [_,R0,_,_,_,_] w7:=Ze hw7;clear hw7 C4;go_wp2_with fail
   go_meet
   have C6:=Bt.oS (C5) [2,0,3,1,4,5];exact⟨_,rfl,rfl,rfl,C6.drop⟩
 case rest =>
  clear B7 G;obtain⟨b13,rfl,rfl,rfl,B8⟩:=hcut;cases hd:D k with
  |none =>
   rw [hd]at hnd;have e0:nd=Nd.none:=hnd.symm;have hTk:=(hD k hk).2 hd;simp only [Option.isSome];subst e0;clear hnd hD;go_wp2_with fail;refine plZ (.q [0,1,3] (.f [2] (.x [4] (.q [5] .d)))) ?_;simp only [Zk.run,pick,gZ,gS,gA,gN]
   (repeat go_big_quiet_step (exact qZ));refine nZ ?_
   (repeat go_big_quiet_step (exact qZ));refine nZ ?_
   refine Z4 ?_;intro w3 C1;clear B8;go_wp2_with((with_reducible apply Zb);(·exact rfl);(·exact rfl);(·exact ii));dsimp only [Nx]
   (repeat go_big_quiet_step (exact qZ));refine nZ ?_
   rintro w4 hw4;have C2:Bt W h [_,Zd W.heap.size _ _,_,_,_] w4:=Ze hw4;clear hw4 C1;go_wp2_with fail;refine bodyPost_ret (Qz rfl _ _ _ _ rfl ii) rfl ?_;exact⟨_,_,rfl,.inl ⟨hTk,⟨_,rfl⟩,rfl⟩,(Bt.wk_po (KS.le.refl K) (FIN _ C2.drop.drop)).fin_at 0 rfl⟩
  |some m =>
   rw [hd]at hnd;have e0:nd=m:=hnd.symm;obtain⟨t,hTk,ot⟩:=(hD k hk).1 m hd;simp only [Option.isSome];subst e0;have Ot:=Lib.hid ot;clear hnd hD ot;go_wp2_with fail;refine plZ (.q [0,1,3] (.f [2] (.x [4] (.q [5] .d)))) ?_;simp only [Zk.run,pick,gZ,gS,gA,gN]
   (repeat(first|((with_reducible apply Zc);(·exact rfl);(·rintro _ ⟨gq,rfl⟩;exact ii);go_frame)|go_big_quiet_step (exact qZ)));refine nZ ?_
   (repeat(first|((with_reducible apply Zc);(·exact rfl);(·rintro _ ⟨gq,rfl⟩;exact ii);go_frame)|go_big_quiet_step (exact qZ)));refine nZ ?_
   refine Z4 ?_;intro w3 C1;clear B8;go_wp2_with((with_reducible apply Zb);(·exact rfl);(·exact rfl);(·exact ii));dsimp only [Nx]
   (repeat go_big_quiet_step (exact qZ));refine nZ ?_
   rintro w4 hw4;have C2:Bt W h [_,Zd W.heap.size _ _,_,_,_] w4:=Ze hw4;clear hw4 C1;go_wp2_with fail;refine bodyPost_ret (Qz rfl _ _ _ _ rfl ii) rfl ?_;exact⟨_,_,rfl,.inr ⟨wk,nd,t,hTk,rfl,Ot.out,rfl⟩,(FIN _ C2.drop.drop).fin_at 0 rfl⟩
end
def rdV(o:Option ByteArray):Value:=match o with
 |none=>.tuple #[.string ⟨#[]⟩,.int .i64 7]
 |some t=>.tuple #[.string t,.int .i64 0]
def szV(o:Option ByteArray):Value:=match o with
 |none=>.tuple #[.int .i64 0,.int .i64 7]
 |some t=>.tuple #[.int .i64 t.size,.int .i64 0]
section
variable{V:VD}{pb txg:Nat}{root:Nd}{C:Nat}{K0:KS}{wd:Wd}
theorem Zf1(ht:txg+1<=4294967295)(snap:Int)(T:Yt)(hT:UF wd snap T)(k:Nat)(hk:k<32) :
  Tq 45 #[pV pb,.int .i64 snap,.int .i64 k,.int .i64 0,.int .i64 20000] (Xn V pb txg root C K0 wd) λ v q=>v=rdV (T k)/\q=Xn V pb txg root C K0 wd:=by
 refine Tq.of λ W h B0=>?_
 obtain⟨K,live,l,⟨hK0,ok⟩,B⟩:=B0.pos;clear B0;have ND:=Zbl (V:=V) (pb:=pb) (root:=root) (C:=C) ht ok snap T hT k hk;have Ok:=Lib.hid ok;clear ok
 go_in
 go_wp2_with fail;refine(Bt.call ND).mono ?_;rintro e w1 ⟨v,q,rfl,hR,B1⟩;clear B ND;dsimp only;rcases hR with ⟨h1,⟨w,rfl⟩,rfl⟩|⟨wk,m,t,h1,rfl,ot,rfl⟩
 ·go_wp2_with((with_reducible apply Zb);(·exact rfl);(·exact rfl);(·exact ii));go_ret2
  (first|apply Zv|apply Zu)
  rw [h1];refine⟨⟨rfl,rfl⟩,Yz (W:=W) (h:=h) (l:=[_,Kh V pb txg root live l K C]) ii λ w9 B9=>(B9.drop.head λ h q=>⟨K,live,l,⟨hK0,Ok.out⟩,q⟩).fin_at 0 rfl⟩
 ·obtain⟨sa,scap,ra,rcap,bb,wb,sb,ms,es,st0,st,mt,sa',scap',ra',rcap',⟨ss,us,hC9,hf⟩,B3⟩:=B1.wk;obtain⟨rfl,rfl⟩:=hf rfl;have B4:=Bt.oS (B3) [4,7,0,1,2,3,5,6];have TS:=Qn (V:=V) (st:=st0) (bb:=bb) (sb:=sb) (txg:=txg+1) (keep:=40) (meta_:=false) (by omega) (by omega);obtain⟨g,o,rfl⟩:=ot;have RD:=V7 TS K C o 0 20000 (by omega) (by omega);have hz:=o.sz;rw [show min 20000 (m.size.toNat-0)=m.size.toNat by omega]at RD
  have FIN:∀(w9:World),Bt W h [Zd wk (J8 st0 live (.slice sa' l.length scap') (.slice ra' V.ds.length rcap')) 188,Qe V st0 bb sb (txg+1) 40 false K C,Zd pb (X7 V txg root live (.slice sa l.length scap) (.slice ra V.ds.length rcap) (pV bb) (pV wk) (pV wb)) 82,Zw 125 15 sa l.length scap (Ye l),Zw 92 2 ra V.ds.length rcap (YU V.ds.length),ZV wb sb V.secs ms es,Zw 125 15 sa' l.length scap' (Ye l),Zw 92 2 ra' V.ds.length rcap' (YU V.ds.length)] w9->Zg W h (Xn V pb txg root C K0 wd) w9:=λ w9 B=>by
   have B4:=Bt.oS (B) [2,3,4,5,0,6,7,1];have B5:=Bt.wk_shut (wk:=wk) (fresh:=true) (st0:=st0) (st:=st0) (mt:=false) (es:=es) (ra':=ra') (rcap':=rcap') (sa':=sa') (scap':=scap') (sa:=sa) (scap:=scap) (ra:=ra) (rcap:=rcap) (bb:=bb) (wb:=wb) (ms:=ms) (sb:=sb) ⟨ss,us,hC9,λ _=>⟨rfl,rfl⟩⟩ B4;exact((Bt.wk_po (KS.le.refl K) B5).head λ h q=>⟨K,live,l,⟨hK0,Ok.out⟩,q⟩).fin_at 0 rfl
  clear B1 B3 ss us hC9 o TS;go_wp2_with((with_reducible apply Zb);(·exact rfl);(·exact rfl);(·exact ii));refine plZ (.q [0,1,2,3,4,5,6,7] (.x [8] (.q [9,10,11,12] .d))) ?_;simp only [Zk.run,pick,gZ,gS,gA,gN]
  (repeat(first|((with_reducible apply Zc);(·exact rfl);(·rintro _ ⟨gq,rfl⟩;exact ii);go_frame)|go_big_quiet_step (exact qZ)));refine nZ ?_
  refine Z4 ?_;intro w2 B5;clear B4;go_wp2_with fail;refine(Bt.call RD).mono ?_;rintro e w3 ⟨v,q,rfl,⟨rfl,rfl⟩,B6⟩;clear B5;dsimp only;go_wp2_with fail;dsimp only [Nx]
  (repeat go_big_quiet_step (exact qZ));refine nZ ?_
  rintro w4 hw4;have B7:Bt W h [_,_,_,_,_,_,_,_,_] w4:=Ze hw4;clear hw4 B6;go_wp2_with fail;go_ret2
  (first|apply Zv|apply Zu)
  rw [h1];exact⟨⟨rfl,rfl⟩,FIN _ B7.drop⟩
theorem Zh9(ht:txg+1<=4294967295)(snap:Int)(T:Yt)(hT:UF wd snap T)(k:Nat)(hk:k<32) :
  Tq 46 #[pV pb,.int .i64 snap,.int .i64 k] (Xn V pb txg root C K0 wd) λ v q=>v=szV (T k)/\q=Xn V pb txg root C K0 wd:=by
 refine Tq.of λ W h B0=>?_
 obtain⟨K,live,l,⟨hK0,ok⟩,B⟩:=B0.pos;clear B0;have ND:=Zbl (V:=V) (pb:=pb) (root:=root) (C:=C) ht ok snap T hT k hk;have Ok:=Lib.hid ok;clear ok
 go_in
 go_wp2_with fail;refine(Bt.call ND).mono ?_;rintro e w1 ⟨v,q,rfl,hR,B1⟩;clear B ND;dsimp only;rcases hR with ⟨h1,⟨w,rfl⟩,rfl⟩|⟨wk,m,t,h1,rfl,ot,rfl⟩
 ·go_wp2_with((with_reducible apply Zb);(·exact rfl);(·exact rfl);(·exact ii));go_ret2
  (first|apply Zv|apply Zu)
  rw [h1];refine⟨⟨rfl,rfl⟩,Yz (W:=W) (h:=h) (l:=[_,Kh V pb txg root live l K C]) ii λ w9 B9=>(B9.drop.head λ h q=>⟨K,live,l,⟨hK0,Ok.out⟩,q⟩).fin_at 0 rfl⟩
 ·go_wp2_with((with_reducible apply Zb);(·exact rfl);(·exact rfl);(·exact ii));go_ret2
  (first|apply Zv|apply Zu)
  rw [h1];obtain⟨g,o,rfl⟩:=ot;have hz:=o.sz;refine⟨⟨?_,rfl⟩,Yz (W:=W) (h:=h) (l:=[_,yL V pb txg root live l K wk true live l K C]) ii λ w9 B9=>((Bt.wk_po (KS.le.refl K) B9.drop).head λ h q=>⟨K,live,l,⟨hK0,Ok.out⟩,q⟩).fin_at 0 rfl⟩;simp only [szV,YA];rw [Int.toNat_of_nonneg hz.1];rfl
end
def KQ(T:Yt):List Nat:=(List.range 32).filter λ k=>(T k).isSome
theorem ZfX(T:Yt):(KQ T).length<=32:=by
 have:=List.length_filter_le (λ k=>(T k).isSome) (List.range 32)
 rwa [List.length_range]at this
instance Zqz:XF 125 15:=⟨λ W b o cs _=>ZS W b o 15 cs _ _ Tryz.underlying125 rfl (by kernel_rfl)⟩
section
variable{V:VD}{pb txg:Nat}{root:Nd}{C:Nat}{K0:KS}{wd:Wd}
theorem Zhp(ht:txg+1<=4294967295)(snap:Int)(T:Yt)(hT:UF wd snap T) :
  Tq 47 #[pV pb,.int .i64 snap] (Xn V pb txg root C K0 wd) λ v q=>∃(ad:Option Addr)(cap:Nat),v=.tuple #[.slice ad (KQ T).length cap,.int .i64 0]/\q=star [Xn V pb txg root C K0 wd,Zw 3 1 ad (KQ T).length cap (KG (KQ T))]:=by
 refine Tq.of λ W h B0=>?_
 obtain⟨K,live,l,⟨hK0,ok⟩,B⟩:=B0.pos;clear B0;have LK:=UA (V:=V) (pb:=pb) (root:=root) (live:=live) (K:=K) (C:=C) (by omega:txg<=4294967294) ok.sn.len snap
 go_in
 go_wp2_with fail;refine(Bt.call LK).mono ?_;rintro e w1 ⟨v,q,rfl,⟨wk,hL,rfl⟩,B1⟩;obtain⟨dn,rfl,dT⟩:=ok.dirOf hT hL;obtain⟨D,dr,hD⟩:=dT;obtain⟨sa,scap,ra,rcap,bb,wb,sb,ms,es,st0,st,mt,sa',scap',ra',rcap',⟨ss,us,hC9,hf⟩,B3⟩:=B1.wk;obtain⟨rfl,rfl⟩:=hf rfl;have B4:=Bt.oS (B3) [4,7,0,1,2,3,5,6];have TS:=Qn (V:=V) (st:=st0) (bb:=bb) (sb:=sb) (txg:=txg+1) (keep:=40) (meta_:=false) (by omega) (by omega);have G:=ZaS TS K C dr
 have e1:XC D 32=KQ T:=List.filter_congr λ k hk=>by
  have hk:k<32:=by simpa using hk
  obtain⟨h1,h2⟩:=hD k hk;cases hd:D k with
  |none=>rw [h2 hd];rfl
  |some m=>obtain⟨t,h3,_⟩:=h1 m hd;rw [h3];rfl
 rw [e1]at G;have Ok:=Lib.hid ok
 have FIN:∀(w9:World)(L:List SP),Bt W h ([Zd wk (J8 st0 live (.slice sa' l.length scap') (.slice ra' V.ds.length rcap')) 188,Qe V st0 bb sb (txg+1) 40 false K C,Zd pb (X7 V txg root live (.slice sa l.length scap) (.slice ra V.ds.length rcap) (pV bb) (pV wk) (pV wb)) 82,Zw 125 15 sa l.length scap (Ye l),Zw 92 2 ra V.ds.length rcap (YU V.ds.length),ZV wb sb V.secs ms es,Zw 125 15 sa' l.length scap' (Ye l),Zw 92 2 ra' V.ds.length rcap' (YU V.ds.length)]++L) w9->Bt W h (Xn V pb txg root C K0 wd::L) w9:=λ w9 L B=>by
  have B2:=B.app [_,_,_,_,_,_,_,_]
  have B3:Bt W h (star (WkL V pb txg root live l sa scap ra rcap bb wb sb ms es wk st0 st0 false live l sa' scap' ra' rcap' K C)::L) w9:=B2.head λ h s=>by
   have s4:=s.perm (l':=_) (ZaK _ [2,3,4,5,0,6,7,1] (by kernel_rfl));simp only [Us,List.getElem?_cons_zero,List.getElem?_cons_succ]at s4;exact s4
  have B5:=Bt.wk_shut (wk:=wk) (fresh:=true) (st0:=st0) (st:=st0) (mt:=false) (es:=es) (ra':=ra') (rcap':=rcap') (sa':=sa') (scap':=scap') (sa:=sa) (scap:=scap) (ra:=ra) (rcap:=rcap) (bb:=bb) (wb:=wb) (ms:=ms) (sb:=sb) ⟨ss,us,hC9,λ _=>⟨rfl,rfl⟩⟩ B3.flat;exact(Bt.wk_po (KS.le.refl K) B5).head λ h q=>⟨K,live,l,⟨hK0,Ok.out⟩,q⟩
 have HF:=Lib.hid FIN;clear FIN;clear B B1 B3 LK hL dr TS ss us hC9 e1 hD ok;dsimp only;go_wp2_with((with_reducible apply Zb);(·exact rfl);(·exact rfl);(·exact ii));refine plZ (.q [0,1,2,3,4,5] (.x [6] (.q [7,8,9,10] .d))) ?_;simp only [Zk.run,pick,gZ,gS,gA,gN]
 (repeat(first|((with_reducible apply Zc);(·exact rfl);(·rintro _ ⟨gq,rfl⟩;exact ii);go_frame)|go_big_quiet_step (exact qZ)));refine nZ ?_
 refine Z4 ?_;intro w2 B5;clear B4;go_wp2_with fail;refine(Bt.call G).mono ?_;rintro e w3 ⟨v,q,rfl,⟨ad,cap,rfl,rfl⟩,B6⟩;clear B5;dsimp only;go_wp2_with fail;dsimp only [Nx]
 (repeat go_big_quiet_step (exact qZ));refine nZ ?_
 refine Z4 ?_;intro w4 B7;clear B6;go_wp2_with fail;go_ret2
 (first|apply Zv|apply Zu)
 refine⟨⟨ad,cap,rfl,rfl⟩,?_⟩;have B8:=Bt.oS (B7) [2,0,1,3,4,5,6,7,8];have B9:=Bt.oS (B8.flat) [3,0,4,5,6,7,8,9,1,2];exact((HF.out w4 [_,_] B9).app [_,_]).fin_at 0 rfl
theorem Zeh{live:Nd}{l:List Sn}{K:KS}(hl:l.length<=4) :
  Tq 48 #[pV pb] (Kh V pb txg root live l K C) λ v q=>∃ sa scap ra rcap,v=.agg (mC live (.slice sa l.length scap) (.slice ra V.ds.length rcap))/\q=star [Kh V pb txg root live l K C,Zw 125 15 sa l.length scap (Ye l)]:=by
 refine Tq.of λ W h B0=>?_
 obtain⟨sa,scap,ra,rcap,ob,owk,ow,bk,sb,N,F,ms,es,⟨ok,hC⟩,pv,B1⟩:=B0.po;simp only [yI,List.cons_append,List.nil_append]at B1
 have hdn:V.ds.length<=100:=by
  haveI:=Z0 (i:=4) B1 rfl;exact(Zo V F W).1.le
 have MC:=λ(w:World) (_:Zy 15 sa l.length scap (Ye l) w) (_:Zy 2 ra V.ds.length rcap (YU V.ds.length) w)=>kY live sa scap l w V.ds.length ra rcap hl hdn
 have r1:=Yo B1 (i:=1) rfl;have r2:=Yo B1 (i:=2) rfl;clear B0;haveI i1:Zy 15 sa l.length scap (Ye l) W:=r1.1;haveI i2:Zy 2 ra V.ds.length rcap (YU V.ds.length) W:=r2.1
 go_in
 go_wp2_with((with_reducible apply Za);(·exact rfl);(·exact ii));refine(MC _ ii ii r1.2.2 r2.2.2).mono ?_;rintro e w2 ⟨sa',scap',ra',rcap',rfl,hg,hn⟩;have B2:=Bt.join (l:=[_,Zd pb (X7 V txg root live (.slice sa l.length scap) (.slice ra V.ds.length rcap) (.pointer ob) (.pointer owk) (.pointer ow)) 82,_,_,_,_,_]) (W:=W) (h:=h) ii hg hn;clear hn hg r1 r2 B1;dsimp only;go_wp2_with((with_reducible apply Zb);(·exact rfl);(·exact rfl);(·exact ii))
 (refine bodyPost_ret (zz (z:=24) rfl _ _ _ _ rfl inferInstance Tryz.underlying78 rfl (by kernel_rfl)) rfl ?_)
 (first|apply Zv|apply Zu)
 refine⟨⟨sa',scap',ra',rcap',rfl,rfl⟩,Yz (W:=W) (h:=h) (l:=[_,_,Zd pb (X7 V txg root live (.slice sa l.length scap) (.slice ra V.ds.length rcap) (.pointer ob) (.pointer owk) (.pointer ow)) 82,_,_,_,_,_]) ii λ w9 B9=>?_⟩;have B10:=Bt.oS (B9.flat) [3,4,5,6,7,8,0,1,2];have B11:=Bt.po_shut (sa:=sa) (scap:=scap) (ra:=ra) (rcap:=rcap) (ob:=ob) (owk:=owk) (ow:=ow) (bk:=bk) (es:=es) ok hC pv B10;exact(B11.app [_,_]).fin_at 0 rfl
def snI(l:List Sn):List (List Value):=l.map λ x=>[.int .i64 x.id]
theorem ZdZ :
  Tq 17 #[pV pb] (Xn V pb txg root C K0 wd) λ v q=>∃(ad:Option Addr)(cap:Nat),v=.slice ad wd.snaps.length cap/\q=star [Xn V pb txg root C K0 wd,Zw 3 1 ad wd.snaps.length cap (wd.snaps.map λ y=>[.int .i64 y.1])]:=by
 refine Tq.of λ W h B0=>?_
 obtain⟨K,live,l,⟨hK0,ok⟩,B⟩:=B0.pos;clear B0;have hl:=ok.sn.len;have ST:=Zeh (V:=V) (pb:=pb) (txg:=txg) (root:=root) (C:=C) (live:=live) (K:=K) hl;have e1:wd.snaps.length=l.length:=(Vr ok.ids).symm
 have e2:(wd.snaps.map λ y=>[Value.int .i64 y.1])=snI l:=by
  have:=congrArg (λ z:List Int=>z.map λ i=>[Value.int .i64 i]) ok.ids;simp only [List.map_map]at this;exact this.symm
 rw [e1,e2];have Ok:=Lib.hid ok;clear e1 e2 ok;have FL:∀(s st:Value)(w:World),(Instr.field 78 (.agg (mC live s st)) 1).run Tryz.prog w=.ok s w:=λ s st w=>by kernel_rfl
 go_in
 go_wp2_with fail;refine(Bt.call ST).mono ?_;rintro e w1 ⟨v,q,rfl,⟨sa,scap,ra,rcap,rfl,rfl⟩,B1⟩;clear B ST;have B2:=(B1.flat).more (Zw.nil 3 1 _);simp only [List.cons_append,List.nil_append]at B2;clear B1;dsimp only;go_wp2_with fail
 go_loopw [3,10] (λ ov iv wr=>∃(k:Nat)(ad:Option Addr)(cap:Nat),k<=l.length/\iv=.int .i64 k/\ov=.slice ad k cap/\Bt W h [Kh V pb txg root live l K C,Zw 125 15 sa l.length scap (Ye l),Zw 3 1 ad k cap (snI (l.take k))] wr)
  (λ _ iv _=>l.length-(intOf iv).toNat)
 case atStart=>exact⟨0,none,0,Nat.zero_le _,rfl,rfl,B2⟩
 case round =>
  clear B2;obtain⟨k,ad,cap,hk,rfl,rfl,B⟩:=hrel
  by_cases hlt:k<l.length
  ·obtain⟨x,hx⟩:∃ x,l[k]?=some x:=⟨_,List.getElem?_eq_getElem hlt⟩
   obtain⟨b,o,rfl,hb,hc⟩:=(Yo B (i:=1) rfl).1.cells k x.cs (by simp [Ye,hx]);haveI:ZJ b (o+k*15) (#[.int .i64 x.id,.int .i64 x.txg,.int .i64 x.dir.size,.int .i64 x.dir.root.ag,.int .i64 x.dir.root.aa,.int .i64 x.dir.root.bg,.int .i64 x.dir.root.ba,.bool x.dir.root.two,.int .i64 x.dir.root.size,.int .i64 x.dir.root.level,.int .i64 x.dir.root.birth,.int .u64 x.dir.root.sum.a,.int .u64 x.dir.root.sum.b,.int .u64 x.dir.root.sum.c,.int .u64 x.dir.root.sum.d]) 15 wr:=⟨rfl,hb,λ j v e=>hc j v e⟩
   have e3:snI (l.take (k+1))=snI (l.take k)++[[.int .i64 x.id]]:=by rw [List.take_add_one,hx];simp [snI]
   have E3:=Lib.hid e3;clear hc hx e3;go_wp2_with(first|(at_builtin;(with_reducible apply ZI);(·exact rfl);(·exact rfl);(·exact ii);(·exact ii);(·exact ii);(·exact rfl);(·decide);(·omega);intro gA capA wA bA;(try dsimp only at bA))|((with_reducible apply Za);(·exact rfl);(·exact ii))|((with_reducible apply Zb);(·exact rfl);(·exact rfl);(·exact ii)));refine⟨⟨k+1,some ⟨gA,0,none⟩,capA,hlt,by go_num,rfl,?_⟩,by simp [intOf];omega⟩;rw [E3.out];exact bA.drop.drop
  ·obtain rfl:l.length=k:=by omega
   go_wp2_with fail;go_ret
   (first|apply Zv|apply Zu)
   refine⟨⟨ad,cap,rfl,rfl⟩,?_⟩;have B3:=Bt.oS (B) [0,2,1];rw [List.take_length]at B3;exact((B3.head (q:=Xn V pb txg root C K0 wd) λ h q=>⟨K,live,l,⟨hK0,Ok.out⟩,q⟩).app [_,_]).fin_at 0 rfl
end
def K4(b:UInt8)(n:Nat):ByteArray:=⟨(List.replicate n b).toArray⟩
theorem yo(b:UInt8)(n:Nat):(K4 b n).size=n:=by show (List.replicate n b).toArray.size=n;simp
theorem Zdu(b:UInt8)(n:Nat)(hn:n<=1000)(W:World):Fn 53 #[.int .u8 b.toNat,.int .i64 n] W (.string (K4 b n)):=by
 refine⟨?_⟩
 go_in
 go_wp2_with fail
 go_loopw [5,6] (λ ov iv wr=>∃(k:Nat)(ad:Option Addr)(cap:Nat),k<=n/\iv=.int .i64 k/\ov=.slice ad k cap/\ZC 5 1 ad k cap (byV (List.replicate k b)) wr W)
  (λ _ i _=>n-(intOf i).toNat)
 case atStart=>exact⟨0,none,0,Nat.zero_le _,rfl,rfl,ZC.nil ..⟩
 case round =>
  obtain⟨k,ad,cap,hk,rfl,rfl,ho⟩:=hrel;obtain⟨g,rfl⟩:=ho.grw
  by_cases hlt:k<n
  ·go_wp2_with(at_builtin;(with_reducible apply Y2);(·exact rfl);(·exact rfl);(·exact ii);(·exact ii);(·exact ii);(·exact rfl);(·decide);(·omega);intro gA capA gW hOwn);refine⟨⟨k+1,some ⟨gA,0,none⟩,capA,hlt,by go_num,rfl,?_⟩,by simp [intOf];omega⟩;have e:byV (List.replicate (k+1) b)=byV (List.replicate k b)++[.int .u8 b.toNat]:=by simp [byV,List.replicate_succ']
   rw [e];exact hOwn
  ·obtain rfl:n=k:=by omega
   have hconv:(convert 99 9 (.slice ad n cap)).run Tryz.prog (gr W g)=.ok (.string (K4 b n)) (gr W g):=by
    rcases ho.own.2 with ⟨h1,h2⟩|⟨g',_,_,e,_⟩
    ·obtain rfl:n=0:=by omega
     injection h1 with h1;subst h1;rfl
    ·injection e with e1;subst e1;obtain⟨f1,_,_⟩:=ho.facts
     have:=run_convert_bytes_back (P:=Tryz.prog) (gr W g) 99 9 5 ⟨g',0,none⟩ cap (List.replicate n b) Tryz.underlying99 Tryz.underlying5 Tryz.underlying9 λ i hi=>by
      have e:(⟨g',0,none⟩:Addr).add i=⟨g',i,none⟩:=by unfold Addr.add;split<;>simp_all
      rw [e];exact f1 i _ (by rw [byV,List.getElem?_map,List.getElem?_eq_getElem hi];rfl)
     rwa [List.length_replicate]at this
   go_wp2_with fail;go_ret;exact⟨rfl,Yb _ _⟩
theorem jI(s:ByteArray)(k:Nat):s++Zx k++⟨#[0]⟩=s++Zx (k+1):=by
 apply Yu;rw [ZQ,ZQ,ZQ,Yj,Yj,List.replicate_succ',List.append_assoc]
theorem Zdf(s:ByteArray):s++Zx 0=s:=by
 apply Yu;rw [ZQ,Yj,List.replicate_zero,List.append_nil]
theorem yR(s:ByteArray)(k j:Nat):ZH (s++Zx k) j=ZH s j:=by
 rw [Yp,YM];split
 ·rfl
 ·rw [ZA (by omega)]
theorem ZiP{s:ByteArray}{n k:Nat}(h:n<=s.size+k):(s++Zx k).extract 0 n=yT s n:=by
 refine Qv (n:=n) (by rw [ByteArray.size_extract,Zs,Zr];omega) (YA ..) λ j hj=>?_
 rw [YH,if_pos (by omega),yR,yT,Ja hj,Nat.zero_add]
theorem Ze7(s:ByteArray)(n:Nat)(hs:s.size<=100000)(hn:n<=100000)(W:World):Fn 50 #[.string s,.int .i64 n] W (.string (yT s n)):=by
 refine⟨?_⟩;obtain⟨M,hM⟩:∃ M,M=max s.size n:=⟨_,rfl⟩
 have hM1:s.size<=M:=by omega
 have hM2:M<=100000:=by omega
 have hM3:n<=M:=by omega
 have HM:Hid (M=s.size\/M=n):=by show _\/_;omega
 clear hM
 go_in
 go_wp2_with fail
 go_loopw [0] (λ sv wr=>∃ k:Nat,s.size+k<=M/\sv=.string (s++Zx k)/\∃ g,wr=gr W g) (λ sv _=>match sv with | .string x=>M-x.size|_=>0)
 case atStart=>exact⟨0,by omega,by rw [Zdf],Y1 W⟩
 case round =>
  obtain⟨k,hk,rfl,g,rfl⟩:=hrel;have hz:(s++Zx k).size=s.size+k:=by rw [Zs,Zr]
  by_cases hlt:s.size+k<n
  ·have hz2:=jI s k;go_wp2_with fail;exact⟨⟨k+1,by omega,rfl,_,rfl⟩,by simp only [Zs,Zr];omega⟩
  ·have he:=ZiP (s:=s) (n:=n) (k:=k) (by omega);go_wp2_with fail;go_ret;exact ZM.mk rfl grown
theorem Zk9{s t:ByteArray}{off k:Nat}(h0:t.size≠0)(h:off<=s.size+k)(hk:s.size+k=max s.size off) :
  qE s off t=if off+t.size<s.size+k then(s++Zx k).extract 0 off++t++(s++Zx k).extract (off+t.size) (s.size+k)else(s++Zx k).extract 0 off++t:=by
 have hm:max s.size (if t.size=0 then 0 else off+t.size)=max (s.size+k) (off+t.size):=by rw [if_neg h0];omega
 have e1:((s++Zx k).extract 0 off++t).size=off+t.size:=by rw [Zs,ByteArray.size_extract,Zs,Zr];omega
 unfold qE;rw [hm];split
 ·rename_i h1;refine Qv (n:=s.size+k) (by rw [YA];omega) (by rw [Zs,e1,ByteArray.size_extract,Zs,Zr];omega) λ j hj=>?_
  rw [Ja (by omega),Nat.zero_add,Yp,e1,Yp,ByteArray.size_extract,Zs,Zr,YH,YH,yR,yR,jD]
  by_cases h2:j<off
  ·rw [if_neg (by omega),if_pos (by omega),if_pos (by omega),if_pos (by omega),Nat.zero_add]
  ·by_cases h3:j<off+t.size
   ·rw [if_pos (by omega),if_pos (by omega),if_neg (by omega)]
    congr 1;omega
   ·rw [if_neg (by omega),if_neg (by omega),if_pos (by omega)]
    congr 1;omega
 ·rename_i h1;refine Qv (n:=off+t.size) (by rw [YA];omega) e1 λ j hj=>?_
  rw [Ja (by omega),Nat.zero_add,Yp,ByteArray.size_extract,Zs,Zr,YH,yR,jD]
  by_cases h2:j<off
  ·rw [if_neg (by omega),if_pos (by omega),if_pos (by omega),Nat.zero_add]
  ·rw [if_pos (by omega),if_neg (by omega)]
   congr 1;omega
theorem ZkT(s t:ByteArray)(off:Nat)(h0:t.size=0):qE s off t=s:=by
 unfold qE;rw [if_pos h0];refine Qv (n:=s.size) (by rw [YA];omega) rfl λ j hj=>?_
 rw [Ja (by omega),Nat.zero_add,jD,if_neg (by omega)]
theorem Zd6(s t:ByteArray)(off:Nat)(hs:s.size<=100000)(hn:off<=100000)(ht:t.size<=100000)(W:World):Fn 52 #[.string s,.int .i64 off,.string t] W (.string (qE s off t)):=by
 refine⟨?_⟩
 by_cases h0:t.size=0
 ·have he:=ZkT s t off h0
  have hne:t.toList.isEmpty=true:=by
   have:t.data.toList=[]:=List.eq_nil_of_length_eq_zero (by rw [Zi];exact h0);rw [ByteArray.toList_eq,this];rfl
  rw [he]
  go_in
  go_wp2_with fail;go_ret;exact ZM.mk rfl grown
 ·have hne:t.toList.isEmpty=false:=Yg h0;obtain⟨M,hM⟩:∃ M,M=max s.size off:=⟨_,rfl⟩
  have hM1:s.size<=M:=by omega
  have hM2:M<=100000:=by omega
  have hM3:off<=M:=by omega
  have HM:=Lib.hid hM;clear hM
  go_in
  go_wp2_with fail
  go_loopw [0] (λ sv wr=>∃ k:Nat,s.size+k<=M/\sv=.string (s++Zx k)/\∃ g,wr=gr W g) (λ sv _=>match sv with | .string x=>M-x.size|_=>0)
  case atStart=>exact⟨0,by omega,by rw [Zdf],Y1 W⟩
  case round =>
   obtain⟨k,hk,rfl,g,rfl⟩:=hrel;have hz:(s++Zx k).size=s.size+k:=by rw [Zs,Zr]
   by_cases hlt:s.size+k<off
   ·have hz2:=jI s k;go_wp2_with fail;exact⟨⟨k+1,by omega,rfl,_,rfl⟩,by simp only [Zs,Zr];omega⟩
   ·have he:=Zk9 (s:=s) (t:=t) (off:=off) (k:=k) h0 (by omega) (by have:=HM.out;omega);have hz3:((s++Zx k).extract 0 off).size=off:=by rw [ByteArray.size_extract];omega
    have He:=Lib.hid he;clear he
    by_cases hlt2:off+t.size<s.size+k
    ·go_wp2_with fail;go_ret;refine ZM.mk ?_ grown;rw [He.out,if_pos hlt2];rfl
    ·go_wp2_with fail;go_ret;refine ZM.mk ?_ grown;rw [He.out,if_neg hlt2];rfl
section
variable(V:VD)(F:Nat->Nat->ByteArray)(pb:Nat)(txg:Int)(root live:Nd)(ss sl b work was:Value)(W:World)[k:Zh W pb (X7 V txg root live ss sl b work was)][D:Zn V F W]
include k D
theorem ZeU:Calls Tryz.prog 24 #[pV pb] W λ e w'=>(∃ v,e=.returned v)/\∃ g,w'=gr W g:=by
 haveI:Yc pb W:=k.old;have hle:=(Zo V F W).1.le;have HX:∀(w:World)(d:Nat),Zn V F w->d<V.ds.length->Fn 62 #[V.v,.int .i64 d] w (.bool true):=λ w d _ h=>KU V F w d h
 go_in
 go_wp2_with fail
 go_loopw [9] (λ i wr=>∃ d:Nat,d<=V.ds.length/\i=.int .i64 d/\∃ g,wr=gr W g) (λ i _=>V.ds.length-(intOf i).toNat)
 case atStart=>exact⟨0,Nat.zero_le _,rfl,Y1 W⟩
 case round =>
  obtain⟨d,hd,rfl,g,rfl⟩:=hrel
  by_cases hlt:d<V.ds.length
  ·have HX1:∀ w,[Zn V F w]->Fn 62 #[V.v,.int .i64 d] w (.bool true):=λ w _=>HX w d ii hlt
   go_wp2_with(first|(with_reducible refine Fn.go λ g=>?_)|((with_reducible apply Za);(·exact rfl);(·exact ii)));exact⟨⟨d+1,hlt,by go_num,_,by first|exact ZW ..|rfl⟩,by simp [intOf];omega⟩
  ·obtain rfl:V.ds.length=d:=by omega
   go_wp2_with fail;go_end0;exact⟨⟨_,rfl⟩,_,rfl⟩
theorem ZdI:Fn 29 #[pV pb] W (.int .i64 0):=by
 refine⟨?_⟩;haveI:Yc pb W:=k.old;have hle:=(Zo V F W).1.le;have HX:∀(w:World)(d:Nat),Zn V F w->d<V.ds.length->Fn 62 #[V.v,.int .i64 d] w (.bool true):=λ w d _ h=>KU V F w d h
 go_in
 go_wp2_with fail
 go_loopw [3,11] (λ v i wr=>∃ d:Nat,d<=V.ds.length/\v=.int .i64 0/\i=.int .i64 d/\∃ g,wr=gr W g) (λ _ i _=>V.ds.length-(intOf i).toNat)
 case atStart=>exact⟨0,Nat.zero_le _,rfl,rfl,Y1 W⟩
 case round =>
  obtain⟨d,hd,rfl,rfl,g,rfl⟩:=hrel
  by_cases hlt:d<V.ds.length
  ·have HX1:∀ w,[Zn V F w]->Fn 62 #[V.v,.int .i64 d] w (.bool true):=λ w _=>HX w d ii hlt
   go_wp2_with(first|(with_reducible refine Fn.go λ g=>?_)|((with_reducible apply Za);(·exact rfl);(·exact ii)));exact⟨⟨d+1,hlt,rfl,by go_num,_,by first|exact ZW ..|rfl⟩,by simp [intOf];omega⟩
  ·obtain rfl:V.ds.length=d:=by omega
   go_wp2_with fail;go_ret;exact ZM.mk rfl grown
end
theorem Ui(V:VD)(F:Nat->Nat->ByteArray)(N:Nat)(pb:Nat)(txg:Int)(root live:Nd)(ss sl b work was:Value) :
  Tq 27 #[pV pb] (star [Zd pb (X7 V txg root live ss sl b work was) 82,ZE V N F]) λ v q=>v=.bool true/\q=star [Zd pb (X7 V txg root live ss sl b work was) 82,ZE V N F]:=by
 have FL:Tq 67 #[V.v] (ZE V N F) λ v q=>v=.tuple #[.int .i64 0,.int .i64 0]/\q=ZE V N F:=(Ze6 V N F).qv
 have GO:∀ w,[Zh w pb (X7 V txg root live ss sl b work was)]->[Zn V F w]->Fn 29 #[pV pb] w (.int .i64 0):=λ w _ _=>ZdI V F pb txg root live ss sl b work was w
 refine Tq.of λ W h B0=>?_
 have B:=B0.flat;clear B0;simp only [List.append_nil]at B
 go_in
 go_wp2_with((with_reducible apply Za);(·exact rfl);(·exact ii));refine(Bt.call FL).mono ?_;rintro e w1 ⟨v,q,rfl,⟨rfl,rfl⟩,B1⟩;clear B;dsimp only;go_wp2_with(with_reducible refine Fn.go λ g=>?_);go_ret
 (first|apply Zv|apply Zu)
 exact⟨⟨rfl,rfl⟩,Yz (W:=W) (h:=h) (l:=[_,_]) ii λ w9 B9=>(B9.app [_,_]).fin_at 0 rfl⟩
def yD(o:ByteArray)(vs:List Int):ByteArray:=vs.foldl (λ o i=>o++XL i) o
theorem ZfC{o:ByteArray}{vs:List Int}{k:Nat}{i:Int}(h:vs[k]?=some i):yD o (vs.take (k+1))=yD o (vs.take k)++XL i:=by
 unfold yD;rw [List.take_add_one,h,List.foldl_append];rfl
theorem Qg(vs:List Int):∀ o:ByteArray,(yD o vs).size<=o.size+8*vs.length:=by
 induction vs with
 |nil=>intro o;simp [yD]
 |cons i vs ih =>
  intro o;have h1:=ih (o++XL i);have h2:=zq i;rw [Zs]at h1;show (yD (o++XL i) vs).size<=_;simp only [List.length_cons];omega
abbrev mwC(o:ByteArray):Array Value:=#[.string o,.int .i64 0]
def inV(vs:List Int):List (List Value):=vs.map λ i=>[.int .i64 i]
theorem Ze5(b:Nat)(o:ByteArray)(ad:Option Addr)(n cap:Nat)(vs:List Int)(P:SP)(hP:∀ h,P h->∀ W,Has W h->Zy 1 ad n cap (inV vs) W)(hv:∀ i∈vs,0<=i/\i<=4611686018427387903)(hn:n<=1000)(ho:o.size<=1000000) :
  Tq 112 #[pV b,.slice ad n cap] (star [Zd b (mwC o) 210,P]) λ _ q=>q=star [Zd b (mwC (yD o vs)) 210,P]:=by
 refine Tq.of λ W h B0=>?_
 have B:=B0.flat;clear B0;simp only [List.append_nil]at B
 have hlen:vs.length=n:=by
  obtain⟨h0,p,i⟩:=B.mem (i:=1) rfl;have:=(hP h0 p W i).len;simpa [inV]using this
 go_in
 go_wp2_with fail
 go_loopw [9] (λ i wr=>∃ k:Nat,k<=n/\i=.int .i64 k/\Bt W h [Zd b (mwC (yD o (vs.take k))) 210,P] wr) (λ i _=>n-(intOf i).toNat)
 case atStart=>exact⟨0,Nat.zero_le _,rfl,B⟩
 case round =>
  clear B;obtain⟨k,hk,rfl,B⟩:=hrel
  by_cases hlt:k<n
  ·obtain⟨x,hx⟩:∃ x,vs[k]?=some x:=⟨_,List.getElem?_eq_getElem (by omega)⟩
   obtain⟨h0,p,hi⟩:=B.mem (i:=1) rfl;obtain⟨g,og,rfl,hb,hc⟩:=(hP h0 p wr hi).cells k [.int .i64 x] (by simp [inV,hx]);have c0:=hc 0 _ rfl;rw [Nat.add_zero,Nat.mul_one]at c0;have hxr:=hv x (List.mem_of_getElem? hx);have hz1:=Qg (vs.take k) o;have hz2:(vs.take k).length<=1000:=by rw [List.length_take];omega
   have hz3:=zq x;have hne:(XL x).toList.isEmpty=false:=Yg (by rw [Ju hxr.1 hxr.2,ZF];omega);have e:=Lib.hid (ZfC (o:=o) hx);clear hx hc hP hv;go_wp2_with(with_reducible refine Fn.go λ g=>?_);refine⟨⟨k+1,hlt,by go_num,?_⟩,by simp [intOf];omega⟩;rw [e.out];exact ii
  ·obtain rfl:n=k:=by omega
   rw [List.take_of_length_le (by omega)]at B;go_wp2_with fail;go_end0;exact⟨_,_,rfl,rfl,(B.app [_,_]).fin_at 0 rfl⟩
theorem Za5(b:Nat)(o:ByteArray)(n:Nd)[Yv n](ho:o.size<=1000000) :
  Tq 111 #[pV b,.agg n.cs] (Zd b (mwC o) 210) λ _ q=>q=Zd b (mwC (o++n.bytes)) 210:=by
 have NB:∀ w,Fn 118 #[.agg n.cs] w (.tuple #[.string n.bytes,.int .i64 0]):=λ w=>by have:=qY n w;rw [n.err_fit]at this;exact this
 have hz:=n.bytes_size;refine Tq.of λ W h B=>?_
 go_in
 go_wp2_with(first|(with_reducible refine Fn.go λ g=>?_)|((with_reducible apply Za);(·exact rfl);(·exact ii)));go_end0;exact⟨_,_,rfl,rfl,Yz (W:=W) (h:=h) (l:=[_,Zd b (mwC (o++n.bytes)) 210]) ii λ w9 B9=>B9.fin_at 1 rfl⟩
end Go.Proofs.YtlfjdjndhcmliaaGreatDoor
