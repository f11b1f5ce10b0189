/- WholeOld, part 48. -/
import Derived.Test.YtlfjdjndhcmliaaGreatDoorA46
import Derived.Test.YtlfjdjndhcmliaaGreatDoorA40
set_option maxRecDepth 100000
set_option maxHeartbeats 4000000
set_option linter.all false
namespace Go.Proofs.YtlfjdjndhcmliaaGreatDoor
open Go.RowKit Go.Sort
section
variable{V:VD}{pb txg:Nat}{root:Nd}{C:Nat}{K0:KS}{wd:Wd}
def WlO(O:SP)(wd:Wd)(ia:Option Addr)(icap:Nat)(sa:Option Addr)(scap:Nat):SP:=λ h=>star (slW wd ia icap sa scap) h/\O h
theorem ZhH{O:SP}(hO:∀ h h',O h->qg h h'->O h'){wd':Wd}{ia ia' sa sa':Option Addr}{icap icap' scap scap':Nat}{h:Hl}(s:star [WlO O wd ia icap sa scap,star (slW wd' ia' icap' sa' scap')] h):WlO O wd' ia' icap' sa' scap' h:=by
 obtain⟨h1,a1,b1⟩:=s.get (i:=0) rfl;obtain⟨h2,a2,b2⟩:=s.get (i:=1) rfl;exact⟨star.sub a2 b2,hO _ _ a1.2 b1⟩
theorem kL{O:SP}{W w:World}{h:Hl}{l:List SP}{ia sa:Option Addr}{icap scap:Nat}(B:Bt W h l w){i:Nat}(e:l[i]?=some (WlO O wd ia icap sa scap)) :
  (Zy 1 ia wd.snaps.length icap (JI wd.snaps) w/\wd.snaps.length<=icap/\(ia=none->icap=0))/\Zy 64 sa wd.snaps.length scap (yE wd.snaps) w/\wd.snaps.length<=scap/\(sa=none->scap=0):=by
 obtain⟨h0,p,j⟩:=B.mem e
 have f:∀ {t:TypeId} {z n cap:Nat} {ad:Option Addr} {L:List (List Value)} {h1:Hl},Zw t z ad n cap L h1->qg h1 h0->Zy z ad n cap L w/\n<=cap/\(ad=none->cap=0):=λ {t z n cap ad L h1} p s=>by
  haveI:=j.sub s;refine⟨p.rd w,p.cap,λ h=>?_⟩;rcases p.2.2 with ⟨_,_,c⟩|⟨g,e,_⟩
  ·exact c
  ·rw [h]at e;cases e
 obtain⟨h1,a1,b1⟩:=p.1.get (i:=0) rfl;obtain⟨h2,a2,b2⟩:=p.1.get (i:=1) rfl;exact⟨f a1 b1,f a2 b2⟩
def Zi3(V:VD)(pb txg:Nat)(root:Nd)(C:Nat)(K0:KS)(O:SP)(v:Value)(q:SP):Prop :=
 (∃ H X a1 n1 c1 a2 n2 c2 wd',v=.tuple #[.agg (Yx H X (.slice a1 n1 c1) (.slice a2 n2 c2)),.bool false]/\q=star [Xn V pb txg root C K0 wd',O]) \/
 ∃ wd' ia icap sa scap,KK wd'/\v=.tuple #[.agg (KO wd' ia icap sa scap),.bool true]/\q=star [Xn V pb txg root C K0 wd',WlO O wd' ia icap sa scap]
theorem zJ{O:SP}{W w:World}{h:Hl}{ia sa:Option Addr}{icap scap:Nat}{C':Nat}{wd1:Wd}{H:Nat->Bool}{X:Nat->ByteArray}{a1 a2:Option Addr}{n1 c1 n2 c2:Nat}{p1 p2 p3 p4:SP}(hc:C'<=C)(B:Bt W h [p1,p2,p3,p4,Xn V pb txg root C K0 wd1,WlO O wd ia icap sa scap] w) :
  ∃ q,Zi3 V pb txg root C' K0 O (.tuple #[.agg (Yx H X (.slice a1 n1 c1) (.slice a2 n2 c2)),.bool false]) q/\Zg W h q w:=by
 have B1:=Bt.oS (B) [4,5,0,1,2,3];have B2:Bt W h [Xn V pb txg root C' K0 wd1,WlO O wd ia icap sa scap,p1,p2,p3,p4] w:=B1.head λ h=>Xn.less hc
 have B3:Bt W h [Xn V pb txg root C' K0 wd1,O,p1,p2,p3,p4] w:=B2.map (i:=1) (q:=O) rfl λ h p=>p.2
 exact⟨_,.inl ⟨_,_,_,_,_,_,_,_,_,rfl,rfl⟩,(B3.app [_,_]).fin_at 0 rfl⟩
theorem Zc3(ht:txg+1<=4294967295)(hC:2000000<=C)(ad:Option Addr)(n cap:Nat)(L:List QE)(hn:n<=12)(o:KK wd)(ia sa:Option Addr)(icap scap:Nat)(O:SP)(hO:∀ h h',O h->qg h h'->O h') :
  TqA (Kf ad n cap L) 9 #[pV pb,.agg (KO wd ia icap sa scap),.slice ad n cap] (star [Xn V pb txg root C K0 wd,WlO O wd ia icap sa scap]) (Zi3 V pb txg root (C-2000000) K0 O):=by
 have HO:=Lib.hid hO;clear hO;refine TqA.of λ W h B0 A=>?_
 have B:=B0.flat;simp only [List.cons_append,List.nil_append]at B;clear B0;unfold KO
 go_in
 go_wp2_with(with_reducible apply ZD);refine Yn (W:=W) (h:=h) (l:=[Zd (W.heap.size+1) wl0 39,Zd W.heap.size (Yx (Yi wd.live) (Yf wd.live) (.slice ia wd.snaps.length icap) (.slice sa wd.snaps.length scap)) 39,Xn V pb txg root C K0 wd,WlO O wd ia icap sa scap]) ii ?_;clear B;rintro w1 B1
 go_loopw [8] (λ iv wr=>∃(k:Nat)(wd:Wd)(ia sa:Option Addr)(icap scap:Nat),(k<=n/\KK wd)/\iv=.int .i64 k/\Bt W h [Zd (W.heap.size+1) wl0 39,Zd W.heap.size (KO wd ia icap sa scap) 39,Xn V pb txg root (C-140000*k) K0 wd,WlO O wd ia icap sa scap] wr)
  (λ iv _=>n-(intOf iv).toNat)
 case atStart=>exact⟨0,wd,ia,sa,icap,scap,⟨Nat.zero_le _,o⟩,rfl,B1⟩
 case round =>
  clear B1 o;obtain⟨k,wd,ia,sa,icap,scap,⟨hk,o⟩,rfl,B⟩:=hrel;have Ra:=A.bt B
  by_cases hlt:k<n
  ·obtain⟨x,hx⟩:∃ x,L[k]?=some x:=⟨_,List.getElem?_eq_getElem (by have:=Ra.len;simp at this;omega)⟩
   obtain⟨b,og,rfl,hb,hc⟩:=Ra.cells k x.cs.toList (by simp [hx])
   have RC:∀(w:World)(l:List SP),Bt W h l w->ZJ b (og+k*5) x.cs 5 w/\w.cell? ⟨b,og+k*5,none⟩=some (.int .u8 x.d.toNat):=λ w l B=>by
    obtain⟨b',og',e,hb',hc'⟩:=(A.bt B).cells k x.cs.toList (by simp [hx]);cases e;exact⟨⟨rfl,hb',λ j v e=>hc' j v e⟩,hc' 0 (.int .u8 x.d.toNat) rfl⟩
   haveI:=(RC _ _ B).1;have HA:=Lib.hid RC;clear RC hb;obtain⟨s1,s2⟩:=kL B (i:=3) rfl;have RA:=λ(w:World) (r1:Zy 1 ia wd.snaps.length icap (JI wd.snaps) w) (r2:Zy 64 sa wd.snaps.length scap (yE wd.snaps) w)=>ZkI x o s1.2.2 s2.2.2 s1.2.1 s2.2.1 w r1 r2
   clear s1 s2;unfold KO at B RA;have LD:=Zlm (V:=V) (pb:=pb) (root:=root) (C:=C-140000*k) (K0:=K0) (wd:=wd) ht (by omega) x;have ec:C-140000*k-140000=C-140000*(k+1):=by omega
   rw [ec]at LD;clear hc hx Ra ec;go_wp2_with fail;refine plZ (.q [0,1,2,3,4] (.y 5 9 (.q [6,7] (.f [8] (.g 9 (.x [10] (.q [11] .d))))) (.x [5] (.q [6,7] (.f [8] (.x [10] (.q [11] .d))))))) ?_;simp only [Zk.run,pick,gZ,gS,gA,gN]
   (repeat(first|((with_reducible apply Zc);(·exact rfl);(·rintro _ ⟨gq,rfl⟩;exact ii);go_frame)|go_big_quiet_step (exact qZ)));refine nZ ?_
   refine⟨?left,?right⟩
   case' left =>
    refine Z4 ?_;intro w2 B2;clear B;go_wp2_with fail;refine(RA w2 (kL B2 (i:=3) rfl).1.1 (kL B2 (i:=3) rfl).2.1).mono ?_;rintro e w3 ⟨H,X,a1,n1,c1,a2,n2,c2,want,q,rfl,N,hR⟩;have HRR:=Lib.hid hR;clear hR;have B3:=Bt.join (W:=W) (h:=h) B2 N.1 N.2;clear B2 N RA;dsimp only;go_wp2_with fail;dsimp only [Nx]
    (repeat go_big_quiet_step (exact qZ));refine nZ ?_
    (repeat go_big_quiet_step (exact qZ));refine nZ ?_
    rintro w4 hw4;go_wp2_with(with_reducible apply ZD);dsimp only [Nx];refine⟨by obtain⟨g,rfl⟩:=hw4;exact⟨_,ZK _ _ _⟩,?_⟩;rintro w5 hw5;have B4:Bt W h _ w4:=Ze hw4;have B5:Bt W h _ w5:=Ze hw5;clear hw4 hw5 B3 B4;go_wp2_with((with_reducible apply Zb);(·exact rfl);(·exact rfl);(·exact ii));dsimp only [Nx]
    (try go_frame)
    (repeat go_big_quiet_step (exact qZ));refine nZ ?_
    refine Z4 ?_;intro w6 B6;clear B5;generalize w4.heap.size=nb at B6 ⊢
   case' right =>
    rintro w2 hw2;go_wp2_with(with_reducible apply ZD);dsimp only [Nx];refine⟨by obtain⟨g,rfl⟩:=hw2;exact⟨_,ZK _ _ _⟩,?_⟩;rintro w4 hw4;have B2:Bt W h _ w2:=Ze hw2;have B4:Bt W h _ w4:=Ze hw4;clear hw2 hw4 B B2;go_wp2_with fail;refine(RA w4 (kL B4 (i:=4) rfl).1.1 (kL B4 (i:=4) rfl).2.1).mono ?_;rintro e w3 ⟨H,X,a1,n1,c1,a2,n2,c2,want,q,rfl,N,hR⟩;have HRR:=Lib.hid hR;clear hR;have B3:=Bt.join (W:=W) (h:=h) B4 N.1 N.2;clear B4 N RA;dsimp only;go_wp2_with fail;dsimp only [Nx]
    (repeat go_big_quiet_step (exact qZ));refine nZ ?_
    (repeat go_big_quiet_step (exact qZ));refine nZ ?_
    refine Z4 ?_;intro w5 B5;clear B3;go_wp2_with((with_reducible apply Zb);(·exact rfl);(·exact rfl);(·exact ii));dsimp only [Nx]
    (try go_frame)
    (repeat go_big_quiet_step (exact qZ));refine nZ ?_
    refine Z4 ?_;intro w6 B7;clear B5;have B6:=Bt.oS (B7) [1,0,2,3,4,5];clear B7;generalize w2.heap.size=nb at B6 ⊢
   all_goals
    haveI:=(HA.out _ _ B6).1;go_wp2_with((with_reducible apply Za);(·exact rfl);(·exact ii));refine(Bt.call LD).mono ?_;rintro e w7 ⟨v,q2,rfl,hQ,B7⟩;clear B6 LD;have c7:=(HA.out _ _ B7).2;dsimp only;rcases hQ with ⟨er,he,rfl,rfl⟩|⟨wd2,rfl,hD,rfl⟩
    ·by_cases h8:er=8
     ·subst h8
      by_cases h5:(x.d.toNat:Int)%8<5
      ·have B8:=B7.drop.drop;clear B7 HRR;go_wp2_with fail;exact⟨⟨k+1,wd,ia,sa,icap,scap,⟨hlt,o⟩,by go_num,B8⟩,by simp [intOf];omega⟩
      ·have q5:decide ((x.d.toNat:Int)%8<5)=false:=by simpa using h5
       by_cases hw:(8:Int)=want
       ·subst hw;have qn:((8:Int) !=8)=false:=by simp
        rcases HRR.out with ⟨_,hE,rfl⟩|⟨hz,_⟩
        ·have HE:=Lib.hid hE;clear hE;have B8:=Bt.oS (B7) [1,0,2,3,4,5];have B9:=B8.drop;clear B7 B8;go_wp2_with(first|((with_reducible apply Za);(·exact rfl);(·exact ii))|((with_reducible apply Zb);(·exact rfl);(·exact rfl);(·exact ii)));refine⟨⟨k+1,wd,ia,sa,icap,scap,⟨hlt,o⟩,by go_num,?_⟩,by simp [intOf];omega⟩;rw [<-HE.out];refine Bt.drop (p:=Zd nb (Yx H X (.slice a1 n1 c1) (.slice a2 n2 c2)) 39) ?_;infer_instance
        ·exact absurd hz he
       ·have qn:((8:Int) !=want)=true:=by simp [hw]
        go_wp2_with(first|((with_reducible apply Za);(·exact rfl);(·exact ii))|((with_reducible apply Zb);(·exact rfl);(·exact rfl);(·exact ii)))
        (refine bodyPost_ret (Zt (z:=66) rfl _ _ _ _ rfl inferInstance Tryz.underlying39 rfl (by kernel_rfl)) rfl ?_)
        first|exact XE (W:=W) (h:=h) (l:=[_,_,_,_,_,_]) ii λ w9 B9=>zJ (by omega) B9|exact VF (W:=W) (h:=h) (l:=[_,_,_,_,_,_]) ii λ w9 B9=>zJ (by omega) B9
     ·have q8:(er==8)=false:=by simp [h8]
      by_cases hw:er=want
      ·subst hw;have qn:(er !=er)=false:=by simp
       rcases HRR.out with ⟨_,hE,rfl⟩|⟨hz,_⟩
       ·have HE:=Lib.hid hE;clear hE;have B8:=Bt.oS (B7) [1,0,2,3,4,5];have B9:=B8.drop;clear B7 B8;go_wp2_with(first|((with_reducible apply Za);(·exact rfl);(·exact ii))|((with_reducible apply Zb);(·exact rfl);(·exact rfl);(·exact ii)));refine⟨⟨k+1,wd,ia,sa,icap,scap,⟨hlt,o⟩,by go_num,?_⟩,by simp [intOf];omega⟩;rw [<-HE.out];refine Bt.drop (p:=Zd nb (Yx H X (.slice a1 n1 c1) (.slice a2 n2 c2)) 39) ?_;infer_instance
       ·exact absurd hz he
      ·have qn:(er !=want)=true:=by simp [hw]
       go_wp2_with(first|((with_reducible apply Za);(·exact rfl);(·exact ii))|((with_reducible apply Zb);(·exact rfl);(·exact rfl);(·exact ii)))
       (refine bodyPost_ret (Zt (z:=66) rfl _ _ _ _ rfl inferInstance Tryz.underlying39 rfl (by kernel_rfl)) rfl ?_)
       first|exact XE (W:=W) (h:=h) (l:=[_,_,_,_,_,_]) ii λ w9 B9=>zJ (by omega) B9|exact VF (W:=W) (h:=h) (l:=[_,_,_,_,_,_]) ii λ w9 B9=>zJ (by omega) B9
    ·by_cases hw:want=0
     ·subst hw;rcases HRR.out with ⟨hne,_⟩|⟨_,wd',ia',ic',sa',sc',hD',hE,rfl⟩
      ·exact absurd rfl hne
      ·obtain rfl:=jN.one o hD hD';have HE:=Lib.hid hE;clear hE;have B8:=Bt.oS (B7) [5,1,0,2,3,4];have B9:=(B8.app [_,_]).head λ h s=>ZhH HO.out s
       have B10:=Bt.oS (B9) [1,2,3,4,0];have B11:=B10;clear B7 B8 B9 B10;go_wp2_with(first|((with_reducible apply Za);(·exact rfl);(·exact ii))|((with_reducible apply Zb);(·exact rfl);(·exact rfl);(·exact ii)));refine⟨⟨k+1,wd2,ia',sa',ic',sc',⟨hlt,hD.ok o⟩,by go_num,?_⟩,by simp [intOf];omega⟩;rw [<-HE.out];refine Bt.drop (p:=Zd nb (Yx H X (.slice a1 n1 c1) (.slice a2 n2 c2)) 39) ?_;infer_instance
     ·have qn:((0:Int) !=want)=true:=by simp;exact λ h=>hw h.symm
      go_wp2_with(first|((with_reducible apply Za);(·exact rfl);(·exact ii))|((with_reducible apply Zb);(·exact rfl);(·exact rfl);(·exact ii)))
      (refine bodyPost_ret (Zt (z:=66) rfl _ _ _ _ rfl inferInstance Tryz.underlying39 rfl (by kernel_rfl)) rfl ?_)
      first|exact XE (W:=W) (h:=h) (l:=[_,_,_,_,_,_]) ii λ w9 B9=>zJ (by omega) B9|exact VF (W:=W) (h:=h) (l:=[_,_,_,_,_,_]) ii λ w9 B9=>zJ (by omega) B9
  ·obtain rfl:k=n:=by omega
   unfold KO at B;go_wp2_with(first|((with_reducible apply Za);(·exact rfl);(·exact ii))|((with_reducible apply Zb);(·exact rfl);(·exact rfl);(·exact ii)))
   (refine bodyPost_ret (Zt (z:=66) rfl _ _ _ _ rfl inferInstance Tryz.underlying39 rfl (by kernel_rfl)) rfl ?_)
   refine XE (W:=W) (h:=h) (l:=[_,_,Xn V pb txg root (C-140000*k) K0 wd,WlO O wd ia icap sa scap]) ii λ w9 B9=>⟨_,.inr ⟨wd,ia,icap,sa,scap,o,rfl,rfl⟩,?_⟩
   have B10:=(B9.drop.drop).head (q:=Xn V pb txg root (C-2000000) K0 wd) λ h=>Xn.less (by omega)
   exact(B10.app [_,_]).fin_at 0 rfl
end
end Go.Proofs.YtlfjdjndhcmliaaGreatDoor
