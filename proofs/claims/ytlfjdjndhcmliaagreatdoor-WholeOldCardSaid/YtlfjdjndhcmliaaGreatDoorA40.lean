/- WholeOld, part 40. -/
import Derived.Test.YtlfjdjndhcmliaaGreatDoorA39
set_option maxRecDepth 100000
set_option maxHeartbeats 4000000
set_option linter.all false
namespace Go.Proofs.YtlfjdjndhcmliaaGreatDoor
open Go.RowKit Go.Sort
def yO(T:Yt)(k:Nat):List Nat:=(List.range k).filter λ j=>(T j).isSome
theorem Zfl{T:Yt}{k:Nat}(h:T k=none):yO T (k+1)=yO T k:=by simp [yO,List.range_succ,List.filter_append,h]
theorem Zea{T:Yt}{k:Nat}{t:ByteArray}(h:T k=some t):yO T (k+1)=yO T k++[k]:=by simp [yO,List.range_succ,List.filter_append,h]
theorem Zhc(T:Yt)(k:Nat):(yO T k).length<=k:=by
 have:=List.length_filter_le (λ j=>(T j).isSome) (List.range k)
 rwa [List.length_range]at this
section
variable{V:VD}{pb txg:Nat}{root:Nd}{C:Nat}{K0:KS}{wd:Wd}
theorem ZdN(ht:txg+1<=4294967295)(snap:Int)(T:Yt)(hT:UF wd snap T) :
  Tq 15 #[pV pb,.int .i64 snap,.agg (yj (Yi T) (Yf T))] (Xn V pb txg root C K0 wd) λ v q=>v=.bool true/\q=Xn V pb txg root C K0 wd:=by
 have RD:=λ k hk=>Zf1 (V:=V) (pb:=pb) (root:=root) (C:=C) (K0:=K0) ht snap T hT k hk
 have SZ:=λ k hk=>Zh9 (V:=V) (pb:=pb) (root:=root) (C:=C) (K0:=K0) ht snap T hT k hk
 have LS:=Zhp (V:=V) (pb:=pb) (root:=root) (C:=C) (K0:=K0) ht snap T hT;clear hT;refine Tq.of λ W h B=>?_
 go_in
 go_wp2_with fail;refine Yn (W:=W) (h:=h) (l:=[Zd W.heap.size (yj (Yi T) (Yf T)) 35,Xn V pb txg root C K0 wd]) ii ?_;intro w1 B1;have B2:Bt W h [Zd W.heap.size (yj (Yi T) (Yf T)) 35,Xn V pb txg root C K0 wd,Zw 3 1 none 0 0 (KG (yO T 0))] w1:=B1.more (Zw.nil 3 1 _);clear B B1
 go_loopw [7,8] (λ ov iv wr=>∃(k:Nat)(ad:Option Addr)(cap:Nat),k<=32/\iv=.int .i64 k/\ov=.slice ad (yO T k).length cap/\Bt W h [Zd W.heap.size (yj (Yi T) (Yf T)) 35,Xn V pb txg root C K0 wd,Zw 3 1 ad (yO T k).length cap (KG (yO T k))] wr)
  (λ _ iv _=>32-(intOf iv).toNat)
 case atStart=>exact⟨0,none,0,Nat.zero_le _,rfl,rfl,B2⟩
 case round =>
  clear B2;obtain⟨k,ad,cap,hk,rfl,rfl,B⟩:=hrel;have hlen:=Zhc T k
  by_cases hlt:k<32
  ·have RD:=RD k hlt;have SZ:=SZ k hlt;cases hT:T k with
   |none =>
    rw [hT]at RD SZ;simp only [rdV,szV]at RD SZ;have e1:Yi T k=false:=by rw [Yi,hT];rfl
    have e2:=Zfl hT;have E2:=Lib.hid e2;clear hT e2;go_wp2_with fail;refine(Bt.call RD).mono ?_;rintro e w1 ⟨v,q,rfl,⟨rfl,rfl⟩,B1⟩;clear B RD;dsimp only;go_wp2_with fail;refine(Bt.call SZ).mono ?_;rintro e w2 ⟨v,q,rfl,⟨rfl,rfl⟩,B2⟩;clear B1 SZ;dsimp only;go_wp2_with fail;refine⟨⟨k+1,ad,cap,hlt,by go_num,?_⟩,by simp [intOf];omega⟩;rw [E2.out];exact⟨rfl,B2⟩
   |some t =>
    rw [hT]at RD SZ;simp only [rdV,szV]at RD SZ;have e1:Yi T k=true:=by rw [Yi,hT];rfl
    have e3:Yf T k=t:=by rw [Yf,hT];rfl
    have e2:=Zea hT;have E2:=Lib.hid e2;clear hT e2;go_wp2_with fail;refine(Bt.call RD).mono ?_;rintro e w1 ⟨v,q,rfl,⟨rfl,rfl⟩,B1⟩;clear B RD;dsimp only;go_wp2_with fail;refine(Bt.call SZ).mono ?_;rintro e w2 ⟨v,q,rfl,⟨rfl,rfl⟩,B2⟩;clear B1 SZ;dsimp only;go_wp2_with(at_builtin;(with_reducible apply ZI);(·exact rfl);(·exact rfl);(·exact ii);(·exact ii);(·exact ii);(·exact rfl);(·decide);(·omega);intro gA capA wA bA;(try dsimp only at bA));refine⟨⟨k+1,some ⟨gA,0,none⟩,capA,hlt,by go_num,?_⟩,by simp [intOf];omega⟩;have e5:KG (yO T k++[k])=KG (yO T k)++[[.int .i64 k]]:=by simp [KG]
    rw [E2.out,e5,List.length_append];exact⟨rfl,bA.drop⟩
  ·obtain rfl:k=32:=by omega
   have e5:yO T 32=KQ T:=rfl;rw [e5]at B hlen ⊢;go_wp2_with fail;refine(Bt.call LS).mono ?_;rintro e w1 ⟨v,q,rfl,⟨ad2,cap2,rfl,rfl⟩,B1⟩;clear B LS;have B2:=Bt.oS (B1) [1,0,2];have B3:=B2.flat;simp only [List.cons_append,List.nil_append]at B3;clear B1 B2;haveI r1:Zy 1 ad2 (KQ T).length cap2 (KG (KQ T)) w1:=(Yo B3 (i:=1) rfl).1;haveI r2:Zy 1 ad (KQ T).length cap (KG (KQ T)) w1:=(Yo B3 (i:=3) rfl).1;have hl32:=ZfX T
   have EQ:∀ w,[Zy 1 ad2 (KQ T).length cap2 (KG (KQ T)) w]->[Zy 1 ad (KQ T).length cap (KG (KQ T)) w]->Fn 16 #[.slice ad2 (KQ T).length cap2,.slice ad (KQ T).length cap] w (.bool true):=λ w _ _=>UJ ad2 ad _ cap2 cap (KG (KQ T)) (λ x hx=>by
    obtain⟨j,_,rfl⟩:=List.mem_map.1 hx
    exact⟨_,rfl⟩) (by omega) w
   dsimp only;go_wp2_with(with_reducible refine Fn.go λ g=>?_);go_ret;exact XE (W:=W) (h:=h) (l:=[Xn V pb txg root C K0 wd,_,_,_]) ii λ w9 B9=>⟨_,⟨rfl,rfl⟩,B9.fin_at 0 rfl⟩
end
section
variable{V:VD}{pb txg:Nat}{root:Nd}{C:Nat}{K0:KS}{wd:Wd}
theorem OpR.tq{f:FuncId}{args:Array Value}{p:SP}{C C':Nat}{P P':Wd->Prop}(t:Tq f args p (OpR V pb txg root C K0 wd P))(hc:C'<=C)(hp:∀ wd',P wd'->P' wd'):Tq f args p (OpR V pb txg root C' K0 wd P'):=t.mono λ v q hq=>by
 rcases hq with ⟨e,h1,h2,rfl⟩|⟨wd',h1,h2,rfl⟩
 ·exact⟨_,.inl ⟨e,h1,h2,rfl⟩,λ h=>Xn.less hc⟩
 ·exact⟨_,.inr ⟨wd',h1,hp _ h2,rfl⟩,λ h=>Xn.less hc⟩
theorem Zlm(ht:txg+1<=4294967295)(hC:140000<=C)(a:QE) :
  Tq 19 #[pV pb,.agg a.cs] (Xn V pb txg root C K0 wd) (OpR V pb txg root (C-140000) K0 wd (jN a wd)):=by
 have hF:(K4 a.fill (km a.n)).size<=16384:=by rw [yo];have:=VC a.n;omega
 obtain⟨m,hm⟩:∃ m,a.d.toNat%8=m:=⟨_,rfl⟩
 have hm8:m<8:=by omega
 have hD:∀ x,DoK m a wd x->jN a wd x:=λ x h=>by unfold jN;rw [hm];exact h
 have Q3:=λ(h:m=3)=>OpR.tq (P':=jN a wd) (Zad (V:=V) (pb:=pb) (root:=root) (C:=C) (K0:=K0) (wd:=wd) ht a.id a.off hC) (Nat.le_refl _) λ x hx=>hD x (by subst h;exact hx)
 have Q4:=λ(h:m=4)=>OpR.tq (P':=jN a wd) (Zcb (V:=V) (pb:=pb) (root:=root) (C:=C) (K0:=K0) (wd:=wd) ht a.id hC) (Nat.le_refl _) λ x hx=>hD x (by subst h;exact hx)
 have Q5:=λ(h:m=5)=>OpR.tq (P':=jN a wd) (C':=C-140000) (Zhg (V:=V) (pb:=pb) (root:=root) (C:=C) (K0:=K0) (wd:=wd) ht a.id) (by omega) λ x hx=>hD x (by subst h;exact hx)
 have Q6:=λ(h:m=6)=>OpR.tq (P':=jN a wd) (C':=C-140000) (Za0 (V:=V) (pb:=pb) (root:=root) (C:=C) (K0:=K0) (wd:=wd) ht a.id) (by omega) λ x hx=>hD x (by subst h;exact hx)
 have Q7:=λ(h:m=7)=>OpR.tq (P':=jN a wd) (C':=C-140000) (Vz (V:=V) (pb:=pb) (root:=root) (C:=C) (K0:=K0) (wd:=wd) ht a.id) (by omega) λ x hx=>hD x (by subst h;exact hx)
 have Q0:=λ(h:m<3)=>OpR.tq (P':=jN a wd) (Zfn (V:=V) (pb:=pb) (root:=root) (C:=C) (K0:=K0) (wd:=wd) ht a.id a.off (K4 a.fill (km a.n)) hF hC) (Nat.le_refl _) λ x hx=>hD x (by unfold DoK;split<;>first|omega|exact hx)
 have RC:=λ w=>UC a w
 have FL:=λ w=>Zdu a.fill (km a.n) (by have:=VC a.n;omega) w
 have HD:=Lib.hid hD;have HF:=Lib.hid hF;clear hD hF;refine Tq.of λ W h B=>?_
 have hcs:a.cs=#[.int .u8 a.d.toNat,.int .i64 a.id,.int .i64 a.off,.int .i64 a.n,.int .u8 a.fill.toNat]:=rfl;rw [hcs]at RC ⊢;have hz:((a.d.toNat:Int)%8)=(m:Int):=by omega
 clear hm;rcases(show m=3\/m=4\/m=5\/m=6\/m=7\/m<3 by omega)with rfl|rfl|rfl|rfl|rfl|h0
 ·have Q:=Q3 rfl;clear Q0 Q3 Q4 Q5 Q6 Q7 RC FL HD
  go_in
  go_wp2_with fail;refine(Bt.call Q).mono ?_;rintro e w1 ⟨v,q,rfl,hR,B1⟩;have HR:=Lib.hid hR;clear B Q hR;dsimp only;go_wp2_with fail;go_ret;exact XE (W:=W) (h:=h) B1 λ w9 B9=>⟨_,HR.out,B9.drop.fin_at 0 rfl⟩
 ·have Q:=Q4 rfl;clear Q0 Q3 Q4 Q5 Q6 Q7 RC FL HD
  go_in
  go_wp2_with fail;refine(Bt.call Q).mono ?_;rintro e w1 ⟨v,q,rfl,hR,B1⟩;have HR:=Lib.hid hR;clear B Q hR;dsimp only;go_wp2_with fail;go_ret;exact XE (W:=W) (h:=h) B1 λ w9 B9=>⟨_,HR.out,B9.drop.fin_at 0 rfl⟩
 ·have Q:=Q5 rfl;clear Q0 Q3 Q4 Q5 Q6 Q7 RC FL HD
  go_in
  go_wp2_with fail;refine(Bt.call Q).mono ?_;rintro e w1 ⟨v,q,rfl,hR,B1⟩;have HR:=Lib.hid hR;clear B Q hR;dsimp only;go_wp2_with fail;go_ret;exact XE (W:=W) (h:=h) B1 λ w9 B9=>⟨_,HR.out,B9.drop.fin_at 0 rfl⟩
 ·have Q:=Q6 rfl;clear Q0 Q3 Q4 Q5 Q6 Q7 RC FL HD
  go_in
  go_wp2_with fail;refine(Bt.call Q).mono ?_;rintro e w1 ⟨v,q,rfl,hR,B1⟩;have HR:=Lib.hid hR;clear B Q hR;dsimp only;go_wp2_with fail;go_ret;exact XE (W:=W) (h:=h) B1 λ w9 B9=>⟨_,HR.out,B9.drop.fin_at 0 rfl⟩
 ·have Q:=Q7 rfl;clear Q0 Q3 Q4 Q5 Q6 Q7 RC FL HD
  go_in
  go_wp2_with fail;refine(Bt.call Q).mono ?_;rintro e w1 ⟨v,q,rfl,hR,B1⟩;have HR:=Lib.hid hR;clear B Q hR;dsimp only;go_wp2_with fail;go_ret;exact XE (W:=W) (h:=h) B1 λ w9 B9=>⟨_,HR.out,B9.drop.fin_at 0 rfl⟩
 ·have Q:=Q0 h0;have n3:((m:Int)==3)=false:=by simp;omega
  have n4:((m:Int)==4)=false:=by simp;omega
  have n5:((m:Int)==5)=false:=by simp;omega
  have n6:((m:Int)==6)=false:=by simp;omega
  have n7:((m:Int)==7)=false:=by simp;omega
  clear Q0 Q3 Q4 Q5 Q6 Q7 HD
  go_in
  go_wp2_with fail;refine plZ (.q [0,1,2,3,4,5,6,7,8,9] (.x [10] (.q [11] .d))) ?_;simp only [Zk.run,pick,gZ,gS,gA,gN]
  (repeat(first|((with_reducible apply Zc);(·exact rfl);(·rintro _ ⟨gq,rfl⟩;exact ii);go_frame)|go_big_quiet_step (exact qZ)));refine nZ ?_
  refine Z4 ?_;intro w2 B2;clear B;go_wp2_with fail;refine(Bt.call Q).mono ?_;rintro e w3 ⟨v,q,rfl,hR,B3⟩;have HR:=Lib.hid hR;clear B2 Q hR;dsimp only;go_wp2_with fail;dsimp only [Nx]
  (repeat go_big_quiet_step (exact qZ));refine nZ ?_
  rintro w4 hw4;have B4:Bt W h [_,q] w4:=Ze hw4;clear hw4 B3;go_wp2_with fail;go_ret;exact XE (W:=W) (h:=h) B4 λ w9 B9=>⟨_,HR.out,B9.drop.fin_at 0 rfl⟩
end
section
variable{V:VD}{pb txg:Nat}{root:Nd}{C:Nat}{K0:KS}{wd:Wd}
theorem Zf0(ht:txg+1<=4294967295)(o:KK wd)(ia sa:Option Addr)(icap scap:Nat) :
  Tq 7 #[pV pb,.agg (KO wd ia icap sa scap)] (star [Xn V pb txg root C K0 wd,Zw 3 1 ia wd.snaps.length icap (JI wd.snaps),Zw 35 64 sa wd.snaps.length scap (yE wd.snaps)]) λ v q=>v=.int .i64 1/\q=star []:=by
 have S0:=ZdN (V:=V) (pb:=pb) (root:=root) (C:=C) (K0:=K0) (wd:=wd) ht (-1) wd.live (.inl ⟨rfl,rfl⟩);have SN:=ZdZ (V:=V) (pb:=pb) (txg:=txg) (root:=root) (C:=C) (K0:=K0) (wd:=wd);have S1:=λ(i:Nat)(id:Int)(T:Yt) (hx:wd.snaps[i]?=some (id,T))=>ZdN (V:=V) (pb:=pb) (root:=root) (C:=C) (K0:=K0) (wd:=wd) ht id T (.inr ⟨by have:=o.pos _ (List.mem_of_getElem? hx);intro h;rw [h]at this;revert this;show ¬ (0:Int)<=-1;decide,i,hx⟩)
 have hlen:=o.len;refine Tq.of λ W h B0=>?_
 have B:=B0.flat;simp only [List.cons_append,List.nil_append]at B;clear B0;unfold KO
 go_in
 go_wp2_with fail;have B1:Bt W h [Zd W.heap.size (Yx (Yi wd.live) (Yf wd.live) (.slice ia wd.snaps.length icap) (.slice sa wd.snaps.length scap)) 39,Xn V pb txg root C K0 wd,Zw 3 1 ia wd.snaps.length icap (JI wd.snaps),Zw 35 64 sa wd.snaps.length scap (yE wd.snaps)] (W.alloc (.cells (Yx (Yi wd.live) (Yf wd.live) (.slice ia wd.snaps.length icap) (.slice sa wd.snaps.length scap)) 39)):=ii;refine Yn (W:=W) (h:=h) B1 ?_;clear B1 B;rintro w1 B1;obtain⟨HL,hHL⟩:∃ HL:List SP,HL=[Zd W.heap.size (Yx (Yi wd.live) (Yf wd.live) (.slice ia wd.snaps.length icap) (.slice sa wd.snaps.length scap)) 39]:=⟨_,rfl⟩
 have in0:In (star HL) w1:=by
  rw [hHL];obtain⟨h0,p,hw⟩:=(B1.app [_]).mem (i:=0) rfl;exact⟨h0,p,hw⟩
 have i1:∀ x:JD (star HL),Zh x.w W.heap.size (Yx (Yi wd.live) (Yf wd.live) (.slice ia wd.snaps.length icap) (.slice sa wd.snaps.length scap)):=λ x=>ZU x.h (k:=0) (by rw [hHL];rfl)
 have HHL:=Lib.hid hHL;clear hHL;have GH:=Zq (star HL);haveI:Nonempty (JD (star HL)):=⟨⟨w1,in0⟩⟩
 refine ZZ (YT (star HL)) [3,7] (.q [0,1,2] (.x [3] (.q [4,5,6] (.f [8,9] (.x [7] (.q [10,11,12] .d)))))) GH (YT.of in0) (by kernel_rfl) (by kernel_rfl) ?_;simp only [Zk.runC,pick,List.getElem?_cons_zero,List.getElem?_cons_succ,List.cons_append,List.nil_append]
 (repeat(first|((with_reducible apply Zc);(·exact rfl);(·rintro _ ⟨gq,rfl⟩;exact ii);go_frame)|go_big_quiet_step (exact qZ)));refine nZ ?_
 refine Z4 ?_;intro w2 B2;clear B1;go_wp2_with fail;refine(Bt.call S0).mono ?_;rintro e w3 ⟨v,q,rfl,⟨rfl,rfl⟩,B3⟩;clear B2
 have in3:In (star HL) w3:=by
  rw [HHL.out];obtain⟨h0,p,hw⟩:=(B3.app [_]).mem (i:=0) rfl;exact⟨h0,p,hw⟩
 dsimp only;go_wp2_with fail;dsimp only [Nx];refine⟨_,⟨Zq _,λ v hv=>hv⟩,λ _=>YT.of in3,?_⟩
 (repeat(first|((with_reducible apply Zc);(·exact rfl);(·rintro _ ⟨gq,rfl⟩;exact ii);go_frame)|go_big_quiet_step (exact qZ)));refine nZ ?_
 (repeat(first|((with_reducible apply Zc);(·exact rfl);(·rintro _ ⟨gq,rfl⟩;exact ii);go_frame)|go_big_quiet_step (exact qZ)));refine nZ ?_
 rintro w4 hw4;have B4:Bt W h [Zd W.heap.size (Yx (Yi wd.live) (Yf wd.live) (.slice ia wd.snaps.length icap) (.slice sa wd.snaps.length scap)) 39,Xn V pb txg root C K0 wd,Zw 3 1 ia wd.snaps.length icap (JI wd.snaps),Zw 35 64 sa wd.snaps.length scap (yE wd.snaps)] w4:=Ze hw4;clear hw4 B3 S0;go_wp2_with fail;refine(Bt.call SN).mono ?_;rintro e w5 ⟨v,q,rfl,⟨ad2,cap2,rfl,rfl⟩,B5⟩;clear B4 SN;have B6:=Bt.oS (B5) [1,0,2,3];have B7:=B6.flat;simp only [List.cons_append,List.nil_append]at B7
 have in5:In (star HL) w5:=by
  rw [HHL.out];have B8:=Bt.oS (B7) [2,0,1,3,4];obtain⟨h0,p,hw⟩:=(B8.app [_]).mem (i:=0) rfl;exact⟨h0,p,hw⟩
 clear B5 B6;haveI r1:Zy 1 ad2 wd.snaps.length cap2 (JI wd.snaps) w5:=(Yo B7 (i:=1) rfl).1;haveI r2:Zy 1 ia wd.snaps.length icap (JI wd.snaps) w5:=(Yo B7 (i:=3) rfl).1
 have EQ:∀ w,[Zy 1 ad2 wd.snaps.length cap2 (JI wd.snaps) w]->[Zy 1 ia wd.snaps.length icap (JI wd.snaps) w]->Fn 16 #[.slice ad2 wd.snaps.length cap2,.slice ia wd.snaps.length icap] w (.bool true):=λ w _ _=>UJ ad2 ia _ cap2 icap (JI wd.snaps) (λ x hx=>by
  obtain⟨j,_,rfl⟩:=List.mem_map.1 hx
  exact⟨_,rfl⟩) (by omega) w
 dsimp only;go_wp2_with fail;dsimp only [Nx];refine⟨_,⟨Zq _,λ v hv=>hv⟩,λ _=>YT.of in5,?_⟩
 (repeat(first|((with_reducible apply Zc);(·exact rfl);(·rintro _ ⟨gq,rfl⟩;exact ii);go_frame)|go_big_quiet_step (exact qZ)));refine nZ ?_
 refine Z4 ?_;intro w6 B8;clear B7 r1 r2 EQ in0 in3 in5 GH i1 this;go_wp2_with fail;have B9:=Bt.oS (B8) [2,0,3,4,1];refine Yn (W:=W) (h:=h) B9 ?_;clear B8 B9;rintro w7 B9
 go_loopw [5] (λ iv wr=>∃ k:Nat,k<=wd.snaps.length/\iv=.int .i64 k/\Bt W h [Zd W.heap.size (Yx (Yi wd.live) (Yf wd.live) (.slice ia wd.snaps.length icap) (.slice sa wd.snaps.length scap)) 39,Xn V pb txg root C K0 wd,Zw 3 1 ia wd.snaps.length icap (JI wd.snaps),Zw 35 64 sa wd.snaps.length scap (yE wd.snaps)] wr)
  (λ iv _=>wd.snaps.length-(intOf iv).toNat)
 case atStart =>
  have B10:=Bt.oS (B9) [4,0,1,2,3];exact⟨0,Nat.zero_le _,rfl,B10.drop⟩
 case round =>
  clear B9;obtain⟨k,hk,rfl,B⟩:=hrel
  by_cases hlt:k<wd.snaps.length
  ·obtain⟨⟨id,T⟩,hx⟩:∃ x,wd.snaps[k]?=some x:=⟨_,List.getElem?_eq_getElem hlt⟩
   have S:=S1 k id T hx;obtain⟨b1,o1,rfl,hb1,hc1⟩:=(Yo B (i:=2) rfl).1.cells k [.int .i64 id] (by simp [JI,hx]);obtain⟨b2,o2,rfl,hb2,hc2⟩:=(Yo B (i:=3) rfl).1.cells k (seO T) (by simp [yE,hx]);have c1:=hc1 0 _ rfl;rw [Nat.add_zero,Nat.mul_one]at c1;haveI:ZJ b2 (o2+k*64) (yj (Yi T) (Yf T)) 64 wr:=⟨kO ..,hb2,λ j v e=>hc2 j v (by simpa [yj,seO]using e)⟩
   clear hc1 hc2 hx S1;go_wp2_with fail;refine plZ (.q [0,1,2,3,4,5,6,7,8,9,10] (.x [11] (.q [12] .d))) ?_;simp only [Zk.run,pick,gZ,gS,gA,gN]
   (repeat(first|((with_reducible apply Zc);(·exact rfl);(·rintro _ ⟨gq,rfl⟩;exact ii);go_frame)|go_big_quiet_step (exact qZ)));refine nZ ?_
   refine Z4 ?_;intro w8 C1;clear B;go_wp2_with fail;refine(Bt.call S).mono ?_;rintro e w9 ⟨v,q,rfl,⟨rfl,rfl⟩,C2⟩;clear C1 S;dsimp only;go_wp2_with fail;dsimp only [Nx]
   (repeat go_big_quiet_step (exact qZ));refine nZ ?_
   refine Z4 ?_;intro w10 C3;clear C2;go_wp2_with fail;exact⟨⟨k+1,hlt,by go_num,C3⟩,by simp [intOf];omega⟩
  ·obtain rfl:k=wd.snaps.length:=by omega
   go_wp2_with fail;go_ret;exact XE (W:=W) (h:=h) B λ w9 B9=>⟨_,⟨rfl,rfl⟩,B9.t.mono λ _ _=>trivial⟩
end
section
variable{W w:World}{h:Hl}{l:List SP}{b:Nat}{H:Nat->Bool}{X:Nat->ByteArray}{u v x:Value}{t:TypeId}
theorem YI.world{G:World->Prop}(B:Bt W h l w)(k:∀ w',Bt W h l w'->G w'):YI (G w):=⟨k w B⟩
theorem ZjJ(c:Nat)[C:Zh w b #[x]]:Zy 1 (some ⟨b,0,none⟩) 1 c [[x]] w:=⟨rfl,λ k y e=>by
 have hk:k=0:=by
  have:=(List.getElem?_eq_some_iff.1 e).1;simp at this;exact this
 subst hk;cases e;refine⟨b,0,rfl,Zh.old (cs:=#[x]) C,λ j v hj=>?_⟩;rw [YO w b (0+0*1+j) #[x]]
 simpa using hj⟩
theorem ZiR(c:Nat)[C:Zh w b (yj H X)]:Zy 64 (some ⟨b,0,none⟩) 1 c [Vs H X] w:=⟨rfl,λ k y e=>by
 have hk:k=0:=by
  have:=(List.getElem?_eq_some_iff.1 e).1;simp at this;exact this
 subst hk;cases e;refine⟨b,0,rfl,Zh.old (cs:=yj H X) C,λ j v hj=>?_⟩;rw [YO w b (0+0*64+j) (yj H X)]
 simpa [yj]using hj⟩
end
section
variable{ops:Array Oper}{rest:List Oper}{Q:Exit->Act->World->Prop}{a:Act}{w:World}{d:Option Tmp}{ty:TypeId}{pos:String}{aft:Array Edge}
theorem Qo{o:Oper}{v:Value}(hg:o.guard=none)(hr:(execOp a.eval o).run Tryz.prog w=.ok (.value v) w)(h:wpList Tryz.prog ops Q rest (a.put o.dst v) w):wpList Tryz.prog ops Q (o::rest) a w:=Ya hg hr h
theorem Vm{x y:Operand}(h:YI (wpList Tryz.prog ops Q ({ dst:=d,op:=.binOp .leq 5 x y 5,type:=ty,pos:=pos,after:=aft,guard:=none }::rest) a w)) :
  wpList Tryz.prog ops Q ({ dst:=d,op:=.binOp .leq 5 x y 5,type:=ty,pos:=pos,after:=aft,guard:=none }::rest) a w:=h.o
end
class ZfD(k:Nat):Prop where
 h:k<32
section
variable(l:List SP)(n:Nat)(H:Nat->Bool)(X:Nat->ByteArray)(u v x:Value)(t:TypeId)
instance(priority:=high) setW64:VY (Zd n (Yx H X u v) t::l) n (λ cs=>cs.setIfInBounds 64 x) (Zd n (Yx H X x v) t::l):=⟨0,Yx H X u v,t,rfl,by simp only [Zfk];rfl⟩
instance(priority:=high) setW65:VY (Zd n (Yx H X u v) t::l) n (λ cs=>cs.setIfInBounds 65 x) (Zd n (Yx H X u x) t::l):=⟨0,Yx H X u v,t,rfl,by simp only [Zd0];rfl⟩
instance(priority:=high) setWh(k:Nat)(y:Bool)[q:ZfD k]:VY (Zd n (Yx H X u v) t::l) n (λ cs=>cs.setIfInBounds k (.bool y)) (Zd n (Yx (Yw H k y) X u v) t::l):=⟨0,Yx H X u v,t,rfl,by simp only [Zhs _ _ _ _ q.h];rfl⟩
instance(priority:=high) setWt(k:Nat)(y:ByteArray)[q:ZfD k]:VY (Zd n (Yx H X u v) t::l) n (λ cs=>cs.setIfInBounds (32+k) (.string y)) (Zd n (Yx H (Yw X k y) u v) t::l):=⟨0,Yx H X u v,t,rfl,by simp only [ZgP _ _ _ _ q.h];rfl⟩
end
theorem jL(l:List (Int × Yt)):∀ y∈JI l,y.length=1:=by
 intro y hy;obtain⟨x,_,rfl⟩:=List.mem_map.1 hy;rfl
theorem Jq(l:List (Int × Yt)):∀ y∈JI l,∀ u∈y,u.oneCell'=true:=by
 intro y hy u hu;obtain⟨x,_,rfl⟩:=List.mem_map.1 hy;rw [List.mem_singleton]at hu;subst hu;rfl
theorem jA(l:List (Int × Yt)):∀ y∈yE l,y.length=64:=by
 intro y hy;obtain⟨x,_,rfl⟩:=List.mem_map.1 hy;exact Yq ..
theorem Js(l:List (Int × Yt)):∀ y∈yE l,∀ u∈y,u.oneCell'=true:=by
 intro y hy;obtain⟨x,_,rfl⟩:=List.mem_map.1 hy;exact j7 _ _
theorem JA(id:Int):∀ l:List (Int × Yt),∃ r,Zmk l id r
 | []=>⟨-1,.inr ⟨rfl,λ y hy=>by cases hy⟩⟩
 |y::l=>by
  by_cases h:y.1=id
  ·exact⟨0,.inl ⟨0,y.2,rfl,by rw [<-h];rfl,λ j _ hj=>absurd hj (Nat.not_lt_zero j)⟩⟩
  ·obtain⟨r,hr⟩:=JA id l;rcases hr with ⟨i,T,rfl,h1,h2⟩|⟨rfl,h2⟩
   ·refine⟨((i+1:Nat):Int),.inl ⟨i+1,T,rfl,h1,λ j z hj e=>?_⟩⟩;cases j with
    |zero=>cases e;exact h
    |succ j=>exact h2 j z (by omega) e
   ·refine⟨-1,.inr ⟨rfl,λ z hz=>?_⟩⟩;rcases List.mem_cons.1 hz with rfl|hz
    ·exact h
    ·exact h2 z hz
def slW(wd:Wd)(ia:Option Addr)(icap:Nat)(sa:Option Addr)(scap:Nat):List SP:=[Zw 3 1 ia wd.snaps.length icap (JI wd.snaps),Zw 35 64 sa wd.snaps.length scap (yE wd.snaps)]
def zm(a:QE)(wd:Wd)(ia:Option Addr)(icap:Nat)(sa:Option Addr)(scap:Nat)(W:World)(e:Ending)(w':World):Prop :=
 ∃ H X a1 n1 c1 a2 n2 c2 want q,e=.returned (.tuple #[.agg (Yx H X (.slice a1 n1 c1) (.slice a2 n2 c2)),.int .i64 want])/\zP q W w' /\
  ((want≠0/\Yx H X (.slice a1 n1 c1) (.slice a2 n2 c2)=KO wd ia icap sa scap/\q=star []) \/
   (want=0/\∃ wd' ia' icap' sa' scap',jN a wd wd'/\Yx H X (.slice a1 n1 c1) (.slice a2 n2 c2)=KO wd' ia' icap' sa' scap'/\q=star (slW wd' ia' icap' sa' scap')))
section
variable{a:QE}{wd:Wd}{ia sa:Option Addr}{icap scap:Nat}
theorem yB{W w:World}{l:List SP}{want:Int}(h:want≠0)(B:Bt W (λ _=>none) l w):zm a wd ia icap sa scap W (.returned (.tuple #[.agg (Yx (Yi wd.live) (Yf wd.live) (.slice ia wd.snaps.length icap) (.slice sa wd.snaps.length scap)),.int .i64 want])) w :=
 ⟨_,_,_,_,_,_,_,_,want,star [],rfl,(B.t.mono λ _ _=>trivial:Zg W (λ _=>none) (star []) w).new1,.inl ⟨h,rfl,rfl⟩⟩
theorem zG{W w:World}{wd':Wd}{H:Nat->Bool}{X:Nat->ByteArray}{ia' sa':Option Addr}{n1 n2 ic' sc':Nat}{p1 p2 p3 p4:SP}(hD:jN a wd wd')(he:Yx H X (.slice ia' n1 ic') (.slice sa' n2 sc')=KO wd' ia' ic' sa' sc')
  (B:Bt W (λ _=>none) (p1::p2::p3::p4::slW wd' ia' ic' sa' sc') w):zm a wd ia icap sa scap W (.returned (.tuple #[.agg (Yx H X (.slice ia' n1 ic') (.slice sa' n2 sc')),.int .i64 0])) w:=by
 have B2:Bt W (λ _=>none) (slW wd' ia' ic' sa' sc'++[]) w:=by rw [List.append_nil];exact B.drop.drop.drop.drop
 exact⟨_,_,_,_,_,_,_,_,0,star (slW wd' ia' ic' sa' sc'),rfl,((B2.app _).fin_at 0 rfl:Zg W (λ _=>none) _ w).new1,.inr ⟨rfl,wd',ia',ic',sa',sc',hD,he,rfl⟩⟩
theorem Zhx(wd:Wd)(id:Int)(T:Yt)(ia:Option Addr)(icap:Nat)(sa:Option Addr)(scap:Nat):slW { wd with snaps:=wd.snaps++[(id,T)] } ia icap sa scap=[Zw 3 1 ia (wd.snaps.length+1) icap (JI wd.snaps++[[.int .i64 id]]),Zw 35 64 sa (wd.snaps.length+1) scap (yE wd.snaps++[Vs (Yi T) (Yf T)])]:=by simp [slW,JI,yE,seO]
theorem Zew(l:List (Int × Yt))(i:Nat):JI (l.eraseIdx i)=(JI l).take i++(JI l).drop (i+1):=by
 rw [List.eraseIdx_eq_take_drop_succ,JI,JI,List.map_append,List.map_take,List.map_drop]
theorem ZeT(l:List (Int × Yt))(i:Nat):yE (l.eraseIdx i)=(yE l).take i++(yE l).drop (i+1):=by
 rw [List.eraseIdx_eq_take_drop_succ,yE,yE,List.map_append,List.map_take,List.map_drop]
theorem U8{α:Type}(l:List α)(i:Nat)(hi:i<l.length):(l.eraseIdx i).length=i+(l.length-(i+1)):=by
 rw [List.length_eraseIdx_of_lt hi];omega
theorem Ze1(wd:Wd)(i:Nat)(hi:i<wd.snaps.length)(ia:Option Addr)(icap:Nat)(sa:Option Addr)(scap:Nat):slW { wd with snaps:=wd.snaps.eraseIdx i } ia icap sa scap=[Zw 3 1 ia (i+(wd.snaps.length-(i+1))) icap ((JI wd.snaps).take i++(JI wd.snaps).drop (i+1)),Zw 35 64 sa (i+(wd.snaps.length-(i+1))) scap ((yE wd.snaps).take i++(yE wd.snaps).drop (i+1))]:=by
 simp only [slW];rw [U8 _ _ hi,Zew,ZeT]
theorem Ka{W w:World}{h:Hl}{l:List SP}(B:Bt W h l w){i:Nat}{p:SP}(e:l[i]?=some p):In (star [p]) w:=by
 obtain⟨h0,hp,hw⟩:=B.mem e;exact⟨h0,⟨h0,λ _=>none,hp,trivial,λ _ _ e=>e,(λ _ _ e=>by cases e),λ _=>.inr rfl⟩,hw⟩
theorem Zd.slice0{b:Nat}{t:TypeId}{z:Nat}{h:Hl}(p:Zd b #[] t h):Zw t z (some ⟨b,0,none⟩) 0 0 [] h:=⟨rfl,by simp,.inr ⟨b,rfl,Nat.zero_le _,#[],p,by simp,by simp,by simp,by simp⟩⟩
end
end Go.Proofs.YtlfjdjndhcmliaaGreatDoor
