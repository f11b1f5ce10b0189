/- WholeOld, part 50. -/
import Derived.Test.YtlfjdjndhcmliaaGreatDoorA49
import Derived.Test.YtlfjdjndhcmliaaGreatDoorA39
import Derived.Test.YtlfjdjndhcmliaaGreatDoorA06
import Derived.Test.YtlfjdjndhcmliaaGreatDoorRows
import Derived.ProofKit
import Derived.OpenShut
import Derived.SizedLaws
import Derived.Carry
import Derived.Lib.SmallJoins
import Derived.Test.YtlfjdjndhcmliaaGreatDoorA00
import Derived.Test.YtlfjdjndhcmliaaGreatDoorA12
import Derived.Test.YtlfjdjndhcmliaaGreatDoorA13
set_option maxRecDepth 100000
set_option maxHeartbeats 4000000
set_option linter.all false
namespace Go.Proofs.YtlfjdjndhcmliaaGreatDoor
open Go.RowKit Go.Sort
theorem zu(i j k:Nat):(Zx (i+j+k)).extract i (i+j)=Zx j:=by
 apply Yu;rw [Lib.extract_eq,Yj,Yj];simp;omega
theorem ZpA:Yh (Zx 224)=Xm:=by kernel_rfl
theorem zbs:bs Xm 4=Zx 32:=by kernel_rfl
theorem Zpx:yS (Zx 224) 8=0/\zQ (Zx 224) 8=0/\qe (Zx 224) 8=16:=by
 have e:Xi (Zx 224) 8 8=0:=by kernel_rfl
 have z:=Zr 224;unfold yS zQ qe;rw [e,z];decide
theorem zrd:zU (Zx 224) 16=Xm:=by kernel_rfl
section
variable{ops:Array Oper}{C:World->Prop}{K:Act->Prop}{rest:List Oper}{a:Act}{d:Option Tmp}{ty:TypeId}{pos:String}{aft:Array Edge}
theorem Vv{x y:Operand}{s t:ByteArray}{t':TypeId}(hx:a.eval x=.string s)(hy:a.eval y=.string t)(e:s≠t)(h:wpQuiet Tryz.prog ops C K rest (a.put d (.bool true))) :
  wpQuiet Tryz.prog ops C K ({ dst:=d,op:=.binOp .neq 9 x y t',type:=ty,pos:=pos,after:=aft,guard:=none }::rest) a:=by
 refine YE (v:=.bool true) rfl (λ w hw=>?_) h
 have hn:(s.toList==t.toList)=false:=by
  refine beq_eq_false_iff_ne.2 λ q=>e ?_
  rw [ByteArray.toList_eq,ByteArray.toList_eq]at q;exact Yu q
 have hb:(binOp .neq 9 (.string s) (.string t)).run Tryz.prog w=.ok (.bool true) w:=by simp [go_sem,hn]
 have hg:(eqGuard .neq 9 x y (.string s) (.string t)).run Tryz.prog w=.ok () w:=by unfold eqGuard;simp [go_sem]
 simp only [execOp,hx,hy,Sem.run_bind,hb,hg,Result.andThen_ok,Sem.run_pure]
end
theorem ZcA(s:ZO)(secs:Int)(W:World):Fn 136 #[.agg #[.slice s.ad s.len s.cap,.int .i64 secs],.string (Zx 256)] W (.tuple #[.agg uz,.int .i64 3]):=by
 refine⟨?_⟩;have x0:(Zx 256).extract 0 224=Zx 224:=zu 0 224 32;have x1:(Zx 256).extract 224 256=Zx 32:=zu 224 32 0;have htz:=Zr 256;have huz:=Zr 224
 have a0:Jg (Zx 224) 0 8=Zx 8:=by
  unfold Jg;rw [if_pos (by omega)];exact zu 0 8 216
 have a3:Jg (Zx 224) 48 128=Zx 128:=by
  unfold Jg;rw [if_pos (by omega)];exact zu 48 128 48
 obtain⟨a1,a1',a1''⟩:=Zpx;have a2:=zrd;have hs:=ZpA;have hb:=zbs;generalize Zx 256=t at *
 generalize Zx 224=u at *
 generalize Zx 32=v at *
 have S1:∀ w,Fn 122 #[.string u] w (.agg #[.int .u64 (Xm.a:Int),.int .u64 (Xm.b:Int),.int .u64 (Xm.c:Int),.int .u64 (Xm.d:Int)]):=λ w=>⟨by rw [<-hs];exact Qx _ (by omega) w⟩
 have F1:∀ w,Fn 121 #[.agg #[.int .u64 (Xm.a:Int),.int .u64 (Xm.b:Int),.int .u64 (Xm.c:Int),.int .u64 (Xm.d:Int)]] w (.string v):=λ w=>by rw [<-hb];infer_instance
 haveI:Bd u 0:=⟨by omega,by omega,by omega⟩
 haveI:Bd u 8:=⟨by omega,by omega,by omega⟩
 haveI:Bd u 48:=⟨by omega,by omega,by omega⟩
 have T0:∀(b:Nat)(w:World) [yc b u 0 w],yF 140 #[.pointer (some ⟨b,0,none⟩),.int .i64 8] w (.tuple #[.string (Zx 8),.int .i64 0]) (w.setCell ⟨b,1,none⟩ (.int .i64 8)):=λ b w _=>by
  have:=zF b u 0 8 (by omega) (by omega) w
  rwa [a0,show Jj u 0 8=0 from if_pos (by omega),show X8 u 0 8=8 from if_pos (by omega)]at this
 have T1:∀(b:Nat)(w:World) [yc b u 8 w],yF 143 #[.pointer (some ⟨b,0,none⟩)] w (.tuple #[.int .i64 0,.int .i64 0]) (w.setCell ⟨b,1,none⟩ (.int .i64 16)):=λ b w _=>by
  have:=Zcr b u 8 w
  rwa [a1,a1',a1'']at this
 have T2:∀(b:Nat)(w:World) [yc b u 16 w],yF 191 #[.pointer (some ⟨b,0,none⟩)] w (.tuple #[.agg #[.int .u64 Xm.a,.int .u64 Xm.b,.int .u64 Xm.c,.int .u64 Xm.d],.int .i64 0]) (w.setCell ⟨b,1,none⟩ (.int .i64 48)):=λ b w _=>by
  have:=kr b u 16 w (by omega) (by omega) (by omega)
  rwa [a2]at this
 have T3:∀(b:Nat)(w:World) [yc b u 48 w],yF 140 #[.pointer (some ⟨b,0,none⟩),.int .i64 128] w (.tuple #[.string (Zx 128),.int .i64 0]) (w.setCell ⟨b,1,none⟩ (.int .i64 176)):=λ b w _=>by
  have:=zF b u 48 128 (by omega) (by omega) w
  rwa [a3,show Jj u 48 128=0 from if_pos (by omega),show X8 u 48 128=176 from if_pos (by omega)]at this
 have RN:∀ w,Fn 142 #[.string (Zx 128)] w (.tuple #[.agg Nd.none.cs,.bool false,.int .i64 0]):=λ w=>yh w
 have hmg:Zx 8≠⟨#[112,111,108,100,101,114,48,49]⟩:=λ e=>by
  have:=congrArg (λ b:ByteArray=>b.data.toList) e;rw [Yj]at this;cases this
 generalize Zx 128=nb at *
 generalize Zx 8=mg at *
 have e1:(v.toList==v.toList)=true:=by simp
 clear a0 a1 a1' a1'' a2 a3 hs hb;have H0:=Lib.hid T0;have H1:=Lib.hid T1;have H2:=Lib.hid T2;have H3:=Lib.hid T3;have HN:=Lib.hid RN;have HM:=Lib.hid hmg;clear T0 T1 T2 T3 RN hmg;haveI BZ:=Bt.zero W
 go_in
 go_wp2_with fail;refine plZ (.q [0,1,2,3,4,5,6,7] .d) ?_;simp only [Zk.run,pick,gZ,gS,gA,gN]
 (repeat go_big_quiet_step (exact qZ));refine nZ ?_
 rintro w1 hw1;have B1:Bt W (λ _=>none) _ w1:=Ze hw1;clear hw1;go_wp2_with(with_reducible refine FnX.go ?_);refine ZB (W:=W) (h:=λ _=>none) (l:=[Zd w1.heap.size #[.string u,.int .i64 0] 239,_,_]) ii ?_;intro w2 C2;refine(H0.out w1.heap.size w2).1.mono ?_;rintro e v2 ⟨rfl,hw⟩;have B2:Bt W (λ _=>none) _ v2:=Ze hw;clear hw C2 B1;dsimp only;go_wp2_with fail;refine ZB (W:=W) (h:=λ _=>none) (l:=[Zd w1.heap.size #[.string u,.int .i64 8] 239,_,_]) ii ?_;intro w3 C3;refine(H1.out w1.heap.size w3).1.mono ?_;rintro e v3 ⟨rfl,hw⟩;have B3:Bt W (λ _=>none) _ v3:=Ze hw;clear hw C3 B2;dsimp only;go_wp2_with fail;refine ZB (W:=W) (h:=λ _=>none) (l:=[Zd w1.heap.size #[.string u,.int .i64 16] 239,_,_]) ii ?_;intro w4 C4;refine(H2.out w1.heap.size w4).1.mono ?_;rintro e v4 ⟨rfl,hw⟩;have B4:Bt W (λ _=>none) _ v4:=Ze hw;clear hw C4 B3;dsimp only;go_wp2_with fail;refine ZB (W:=W) (h:=λ _=>none) (l:=[_,Zd w1.heap.size #[.string u,.int .i64 48] 239,_,_]) ii ?_;intro w5 C5;refine(H3.out w1.heap.size w5).1.mono ?_;rintro e v5 ⟨rfl,hw⟩;have B5:Bt W (λ _=>none) _ v5:=Ze hw;clear hw C5 B4;dsimp only;go_wp2_with fail;refine ZB (W:=W) (h:=λ _=>none) (l:=[_,Zd w1.heap.size #[.string u,.int .i64 176] 239,_,_]) ii ?_;intro w6 C6;refine(HN.out w6).1.mono ?_;rintro e v6 ⟨rfl,hb⟩;have B6:Bt W (λ _=>none) _ v6:=Ze (Zf hb);clear hb C6 B5;dsimp only;go_wp2_with((with_reducible apply Zb);(·exact rfl);(·exact rfl);(·exact ii));refine Yn (W:=W) (h:=λ _=>none) (l:=[_,_,_,_,_]) ii ?_;intro w7 C7;refine QN (by kernel_rfl) (by kernel_rfl) ?_
 go_big_quiet_step (exact λ _=>rfl)
 (with_reducible apply Vv)
 (·exact rfl);(·exact rfl);(·exact HM.out);go_frame
 (repeat(first|((with_reducible apply Zc);(·exact rfl);(·rintro _ ⟨gq,rfl⟩;exact ii);go_frame)|go_big_quiet_step (exact qZ)));refine nZ ?_
 refine Z4 ?_;intro w8 B8;clear C7;go_wp2_with((with_reducible apply Zb);(·exact rfl);(·exact rfl);(·exact ii))
 (refine bodyPost_ret (Zt (z:=14) rfl _ _ _ _ rfl inferInstance Tryz.underlying54 rfl (by kernel_rfl)) rfl ?_)
 exact⟨rfl,Bt.below0 (W:=W) (l:=[_,_,_,_,_]) ii⟩
def Yd(f:Nat->ByteArray)(k:Nat):Nat->ByteArray
 |0=>⟨#[]⟩
 |j+1=>Yd f k j++f (4*k+j)
theorem kT{f:Nat->ByteArray}{k:Nat}(h:∀ a,a<16->(f a).size=64)(hk:k<4):∀ j,j<=4->(Yd f k j).size=64*j
 |0,_=>rfl
 |j+1,hj=>by rw [Yd,Zs,kT h hk j (by omega),h _ (by omega)];omega
theorem ZkH(V:VD)(F:Nat->Nat->ByteArray)(W:World)[D:Zn V F W](d k:Nat)(hd:d<V.ds.length)(hk:k<4)(txg:Int)(n:Nd)(er:Int)(hz:∀ a,a<16->(F d a).size=64)
  (HR:∀ w,[GM V.s w]->Fn 136 #[V.G,.string (Yd (F d) k 4)] w (.tuple #[.agg (Jn txg n),.int .i64 er])) :
  Fn 76 #[V.v,.int .i64 d,.int .i64 k] W (.tuple #[.agg (Jn txg n),.int .i64 er]):=by
 refine⟨?_⟩;obtain⟨dd,hdd⟩:∃ dd,V.ds[d]?=some dd:=⟨_,List.getElem?_eq_getElem hd⟩
 have hsec:17<=V.secs:=by have:=(Zo V F W).1.g.2.2.1;omega
 have VR:∀ w,[Zn V F w]->Fn 69 #[V.v] w (.bool true):=λ w _=>YZ V F w
 have HX:∀ w,[Zn V F w]->Fn 62 #[V.v,.int .i64 d] w (.bool true):=λ w _=>KU V F w d hd
 have e1:decide ((d:Int)<0)=false:=decide_eq_false (by omega);have e2:decide ((V.ds.length:Int)<=d)=false:=decide_eq_false (by omega);have e3:decide ((k:Int)<0)=false:=decide_eq_false (by omega);have e4:decide ((4:Int)<=k)=false:=decide_eq_false (by omega);haveI BZ:=Bt.zero W
 go_in
 have HD:∀ w:World,[Zn V F w]->w.cell? ⟨V.lb,d,none⟩=some (.pointer (some ⟨dd,0,none⟩)):=λ w _=>((Zo V F w).2.2.2.2 d dd hdd).2.1
 have HS:=Lib.hid (kT (f:=F d) hz hk);have HR':=Lib.hid HR;clear hz HR;go_wp2_with(first|(with_reducible refine Fn.go λ g=>?_)|((with_reducible apply Za);(·exact rfl);(·exact ii)))
 go_loopw [8,42] (λ v i wr=>∃ j:Nat,j<=4/\v=.string (Yd (F d) k j)/\i=.int .i64 j/\Bt W (λ _=>none) [Zd (W.heap.size+1) uz 54,Zd W.heap.size V.cs 31] wr) (λ _ i _=>4-(intOf i).toNat)
 case atStart=>exact⟨0,by omega,rfl,rfl,ii⟩
 case round =>
  obtain⟨j,hj,rfl,rfl,B1⟩:=hrel;haveI:Zn V F wr:=by obtain⟨g,rfl⟩:=Zf B1.below0;infer_instance
  haveI:Yc V.lb wr:=(Zo V F wr).2.2.1
  by_cases hlt:j<4
  ·have HX1:∀ w,[Zn V F w]->Fn 135 #[.pointer (some ⟨dd,0,none⟩),.int .i64 ((k:Int)*4+j)] w (.tuple #[.string (F d (4*k+j)),.int .i64 0]):=λ w _=>by
    haveI:=((Zo V F w).2.2.2.2 d dd hdd).1;have:=Zbs dd V.secs (F d) w (4*k+j) (by omega)
    rwa [show ((4*k+j:Nat):Int)=(k:Int)*4+j by omega]at this
   have z1:=HS.out j hj;have z2:=HS.out (j+1) hlt;have hs:Yd (F d) k j++F d (4*k+j)=Yd (F d) k (j+1):=rfl;have z3:(F d (4*k+j)).size=64:=by rw [<-hs,Zs,z1]at z2;omega
   have HT:=Lib.hid hs;clear hs z2;go_wp2_with(with_reducible refine Fn.go λ g=>?_);exact⟨⟨j+1,hlt,by rw [HT.out],by go_num,ii⟩,by simp [intOf];omega⟩
  ·obtain rfl:j=4:=by omega
   have HR1:∀ w,[GM V.s w]->Fn 136 #[.agg #[.slice V.s.ad V.s.len V.s.cap,.int .i64 V.secs],.string (Yd (F d) k 4)] w (.tuple #[.agg (Jn txg n),.int .i64 er]):=λ w _=>HR'.out w
   haveI:GM V.s wr:=(Zo V F wr).2.1;go_wp2_with(first|(with_reducible refine Fn.go λ g=>?_)|((with_reducible apply Za);(·exact rfl);(·exact ii))|((with_reducible apply Zb);(·exact rfl);(·exact rfl);(·exact ii)))
   (refine bodyPost_ret (Zt (z:=14) rfl _ _ _ _ rfl inferInstance Tryz.underlying54 rfl (by kernel_rfl)) rfl ?_)
   exact⟨rfl,Bt.below0 (W:=W) (l:=[_,_]) ii⟩
abbrev UX:=Int × Nd × Int
def zY(b:Int × Nd)(x:UX):Int × Nd:=if x.2.2=0/\b.1<x.1 then(x.1,x.2.1)else b
def yd(X:Nat->UX)(b:Int × Nd):Nat->Int × Nd
 |0=>b
 |i+1=>zY (yd X b i) (X i)
def JR(X:Nat->UX):Nat->Int × Nd
 |0=>(0,Nd.none)
 |d+1=>yd X (JR X d) 4
theorem Zhy(V:VD)(F:Nat->Nat->ByteArray)(W:World)[D:Zn V F W](X:Nat->UX)
  (HO:∀(d k:Nat)(w:World),d<V.ds.length->k<4->Zn V F w->Fn 76 #[V.v,.int .i64 d,.int .i64 k] w (.tuple #[.agg (Jn (X k).1 (X k).2.1),.int .i64 (X k).2.2]))
  (hne:(JR X V.ds.length).1≠0) :
  Fn 33 #[V.v] W (.tuple #[.agg (Jn (JR X V.ds.length).1 (JR X V.ds.length).2),.int .i64 0]):=by
 refine⟨?_⟩;have HH:=Lib.hid HO;have HN:=Lib.hid hne;have hle:V.ds.length<=100:=(Zo V F W).1.le;clear HO hne;haveI BZ:=Bt.zero W;have DV:∀(l:List SP)(w:World),Bt W (λ _=>none) l w->Zn V F w:=λ l w B=>by obtain⟨g,rfl⟩:=Zf B.below0;infer_instance
 have HD:=Lib.hid DV;clear DV
 go_in
 go_wp2_with((with_reducible apply Za);(·exact rfl);(·exact ii));refine ZB (W:=W) (h:=λ _=>none) (l:=[_,_]) ii ?_;intro w1 C1;haveI:=HD.out _ _ C1;refine(YZ V F w1).1.mono ?_;rintro e w2 ⟨rfl,hb⟩;have B2:Bt W (λ _=>none) _ w2:=Ze (Zf hb);clear hb C1 this;dsimp only;go_wp2_with((with_reducible apply Zb);(·exact rfl);(·exact rfl);(·exact ii))
 go_loopw [17] (λ i wr=>∃ d:Nat,d<=V.ds.length/\i=.int .i64 d/\Bt W (λ _=>none) [Zd w2.heap.size (Jn (JR X d).1 (JR X d).2) 54,Zd (W.heap.size+1) uz 54,Zd W.heap.size V.cs 31] wr) (λ i _=>V.ds.length-(intOf i).toNat)
 case atStart=>exact⟨0,Nat.zero_le _,rfl,ii⟩
 case round =>
  clear B2;obtain⟨d,hd,rfl,B3⟩:=hrel
  by_cases hlt:d<V.ds.length
  ·go_wp2_with fail
   go_loopw [20] (λ i wr=>∃ k:Nat,k<=4/\i=.int .i64 k/\Bt W (λ _=>none) [Zd w2.heap.size (Jn (yd X (JR X d) k).1 (yd X (JR X d) k).2) 54,Zd (W.heap.size+1) uz 54,Zd W.heap.size V.cs 31] wr) (λ i _=>4-(intOf i).toNat)
   case atStart=>exact⟨0,Nat.zero_le _,rfl,B3⟩
   case round =>
    clear B3;obtain⟨k,hk,rfl,B4⟩:=hrel
    by_cases hlk:k<4
    ·obtain⟨xt,xn,xe,hx⟩:∃ xt xn xe,X k=(xt,xn,xe):=⟨_,_,_,rfl⟩
     obtain⟨bt,bn,hb⟩:∃ bt bn,yd X (JR X d) k=(bt,bn):=⟨_,_,rfl⟩
     have hst:yd X (JR X d) (k+1)=zY (bt,bn) (xt,xn,xe):=by rw [yd,hb,hx]
     have C:=HH.out d k wr hlt hlk (HD.out _ _ B4);rw [hx]at C;rw [hb]at B4;dsimp only at C B4;have HST:=Lib.hid hst;have CC:=Lib.hid C;clear hst hx hb C;go_wp2_with((with_reducible apply Za);(·exact rfl);(·exact ii));refine CC.out.1.mono ?_;rintro e w5 ⟨rfl,hb5⟩;have B5:Bt W (λ _=>none) _ w5:=Ze (Zf hb5);clear hb5 B4 CC;dsimp only
     by_cases h0:xe=0
     ·subst h0
      by_cases h1:bt<xt
      ·have HB:=Lib.hid (HST.out.trans (show zY (bt,bn) (xt,xn,0)=(xt,xn) from if_pos ⟨rfl,h1⟩));have q1:decide (bt<xt)=true:=decide_eq_true h1;go_wp2_with(first|((with_reducible apply Za);(·exact rfl);(·exact ii))|((with_reducible apply Zb);(·exact rfl);(·exact rfl);(·exact ii)));exact⟨⟨k+1,hlk,by go_num,by rw [HB.out];exact Bt.drop (p:=Zd w5.heap.size (Jn xt xn) 54) ii⟩,by simp [intOf];omega⟩
      ·have HB:=Lib.hid (HST.out.trans (show zY (bt,bn) (xt,xn,0)=(bt,bn) from if_neg λ h=>h1 h.2));have q1:decide (bt<xt)=false:=decide_eq_false h1;go_wp2_with((with_reducible apply Zb);(·exact rfl);(·exact rfl);(·exact ii));exact⟨⟨k+1,hlk,by go_num,by rw [HB.out];exact Bt.drop (p:=Zd w5.heap.size (Jn xt xn) 54) ii⟩,by simp [intOf];omega⟩
     ·have HB:=Lib.hid (HST.out.trans (show zY (bt,bn) (xt,xn,xe)=(bt,bn) from if_neg λ h=>h0 h.1));have q0:(xe==0)=false:=by simp [h0]
      clear h0;go_wp2_with((with_reducible apply Zb);(·exact rfl);(·exact rfl);(·exact ii));exact⟨⟨k+1,hlk,by go_num,by rw [HB.out];exact Bt.drop (p:=Zd w5.heap.size (Jn xt xn) 54) ii⟩,by simp [intOf];omega⟩
    ·obtain rfl:k=4:=by omega
     go_wp2_with fail;exact⟨⟨d+1,hlt,by go_num,B4⟩,by simp [intOf];omega⟩
  ·obtain rfl:V.ds.length=d:=by omega
   have e0:((JR X V.ds.length).1==0)=false:=by simpa using HN.out
   go_wp2_with(first|((with_reducible apply Za);(·exact rfl);(·exact ii))|((with_reducible apply Zb);(·exact rfl);(·exact rfl);(·exact ii)))
   (refine bodyPost_ret (Zt (z:=14) rfl _ _ _ _ rfl inferInstance Tryz.underlying54 rfl (by kernel_rfl)) rfl ?_)
   exact⟨rfl,Bt.below0 (W:=W) (l:=[_,_,_]) ii⟩
theorem kN(X:Nat->UX)(b:Int × Nd):yd X b 4=zY (zY (zY (zY b (X 0)) (X 1)) (X 2)) (X 3):=rfl
theorem qt{b:Int × Nd}{x:UX}(h:x.2.2≠0):zY b x=b:=if_neg λ k=>h k.1
theorem Vc{X:Nat->UX}{n1 n2:Nd}(h0:(X 0).2.2≠0)(h1:X 1=(1,n1,0))(h2:X 2=(2,n2,0))(h3:(X 3).2.2≠0):∀ d,1<=d->JR X d=(2,n2)
 |0,h=>absurd h (by decide)
 |1,_=>by
  show yd X (0,Nd.none) 4=_;rw [kN,qt h0,qt h3,h1,h2];rfl
 |d+2,_=>by
  show yd X (JR X (d+1)) 4=_;rw [Vc h0 h1 h2 h3 (d+1) (by omega),kN,qt h0,qt h3,h1,h2];rfl
theorem VA(t:ByteArray)(hz:t.size=256){F:Nat->Nat->ByteArray}{n d k:Nat}(hd:d<n)(hk:k<4):Yd (zE F n (4*k) 0 t d) k 4=t:=by
 have e:∀ j,j<4->zE F n (4*k) 0 t d (4*k+j)=t.extract (64*j) (64*j+64):=λ j hj=>by
  unfold zE;rw [if_pos (by omega),Nat.add_sub_cancel_left]
 simp only [Yd,e 0 (by omega),e 1 (by omega),e 2 (by omega),e 3 (by omega)];apply Yu;have hl:t.data.toList.length=256:=by rw [Zi];exact hz
 simp only [ZQ,Lib.extract_eq];have a0:=List.take_append_drop 64 t.data.toList;generalize t.data.toList=l at *
 simp only [Nat.mul_zero,Nat.zero_add,List.drop_zero,Nat.sub_zero];have s1:l.drop 64=(l.drop 64).take 64++l.drop 128:=by rw [<-List.drop_drop (i:=64) (j:=64)];exact(List.take_append_drop 64 _).symm
 have s2:l.drop 128=(l.drop 128).take 64++l.drop 192:=by rw [<-List.drop_drop (i:=64) (j:=128)];exact(List.take_append_drop 64 _).symm
 have s3:(l.drop 192).take 64=l.drop 192:=List.take_of_length_le (by simp;omega);have key:l.take 64++((l.drop 64).take 64++((l.drop 128).take 64++(l.drop 192).take 64))=l:=by rw [s3,<- s2,<- s1,List.take_append_drop]
 refine Eq.trans ?_ key;simp only [List.append_assoc];rfl
theorem yq{t:ByteArray}{F:Nat->Nat->ByteArray}{n d k j:Nat}(hk:k<4)(hj:j<4)(hne:k≠j):Yd (zE F n (4*j) 0 t d) k 4=Yd (F d) k 4:=by
 have e:∀ i,i<4->zE F n (4*j) 0 t d (4*k+i)=F d (4*k+i):=λ i hi=>by
  unfold zE;rw [if_neg (by omega)]
 simp only [Yd,e 0 (by omega),e 1 (by omega),e 2 (by omega),e 3 (by omega)]
theorem Zk7{x y:S4}(hx:x.ok)(hy:y.ok)(h:bs x 4=bs y 4):x=y:=by
 have a:=ZgU (t:=bs x 4) hx [] [] 0 (by omega) rfl (by simp);have b:=ZgU (t:=bs x 4) hy [] [] 0 (by omega) rfl (by rw [h];simp);rw [<-a,<- b]
theorem ZeI{u u':ByteArray}(h:Yh u'≠Yh u):bs (Yh u) 4≠bs (Yh u') 4:=λ e=>h (Zk7 (VM _) (VM _) e.symm)
theorem Zb8:Z1 0=Zx 64:=by kernel_rfl
theorem ZbV{k d:Nat}:Yd ((λ _ _=>Z1 0:Nat->Nat->ByteArray) d) k 4=Zx 256:=by
 simp only [Yd,Zb8]
 kernel_rfl
theorem Zkc(x:S4):∀ ws:List Nat,(sums x ws).a%MM=(x.a+ws.sum)%MM
 | []=>by simp [sums]
 |w::ws=>by
  have:=Zkc (x.step w) ws;show (sums (x.step w) ws).a%MM=_;rw [this,List.sum_cons];simp only [S4.step];rw [Nat.add_mod,Nat.mod_mod,<- Nat.add_mod,Nat.add_assoc]
theorem ZcD(a b c d:UInt8):Xj ⟨#[a,b,c,d]⟩=[J6 [a,b,c,d]]:=by
 have e:(⟨#[a,b,c,d]⟩:ByteArray).size/4=1:=by rw [show (⟨#[a,b,c,d]⟩:ByteArray).size=4 from rfl]
 unfold Xj XR Xk;rw [e];simp [List.range_succ,yx,num]
theorem Zfu{P R:ByteArray}(hP:P.size%4=0)(hR:R.size%4=0){a b b' c d:UInt8}(hb:b≠b'):Yh (P++⟨#[a,b',c,d]⟩++R)≠Yh (P++⟨#[a,b,c,d]⟩++R):=λ e=>by
 have w:∀ x:UInt8,Xj (P++⟨#[a,x,c,d]⟩++R)=Xj P++[J6 [a,x,c,d]]++Xj R:=λ x=>by
  have z:(⟨#[a,x,c,d]⟩:ByteArray).size=4:=rfl;rw [U1 (by rw [Zs];omega),U1 hP,ZcD]
 have s:∀ x:UInt8,(Yh (P++⟨#[a,x,c,d]⟩++R)).a%MM=((Xj P).sum+J6 [a,x,c,d]+(Xj R).sum)%MM:=λ x=>by
  have z:(⟨#[a,x,c,d]⟩:ByteArray).size=4:=rfl;unfold Yh;rw [ZiW (by rw [Zs,Zs];omega),Zkc,w];simp [Xm,Nat.add_assoc]
 have h:=(s b').symm.trans ((congrArg (λ x:S4=>x.a%MM) e).trans (s b))
 have n:∀ x:UInt8,J6 [a,x,c,d]=a.toNat+256*x.toNat+65536*c.toNat+16777216*d.toNat:=λ x=>by
  simp [J6];omega
 rw [n,n]at h;have t1:=a.toNat_lt;have t2:=b.toNat_lt;have t3:=b'.toNat_lt;have t4:=c.toNat_lt;have t5:=d.toNat_lt;have:b.toNat=b'.toNat:=by unfold MM at h;omega
 exact hb (UInt8.toNat_inj.1 this)
theorem ZeQ(s:ZO)(secs:Int){u u':ByteArray}(hz:u'.size=224)(h:Yh u'≠Yh u)(W:World) :
  Fn 136 #[.agg #[.slice s.ad s.len s.cap,.int .i64 secs],.string (u'++bs (Yh u) 4)] W (.tuple #[.agg uz,.int .i64 4]):=by
 obtain⟨x0,x1⟩:=Zdh u' (bs (Yh u) 4);rw [hz]at x0 x1;rw [XS]at x1;refine Zd1 s secs _ (by rw [Zs,hz,XS]) ?_ W;rw [x0,x1];exact ZeI h
theorem ZaN(V:VD)(pb:Nat)(txg:Nat)(root live:Nd)(ss sl ob owk ow:Value)(W:World)[k:Zh W pb (X7 V txg root live ss sl ob owk ow)] :
  Fn 8 #[pV pb] W (.agg (Jn txg root)):=by
 refine⟨?_⟩;haveI:Yc pb W:=k.old;haveI BZ:=Bt.zero W
 go_in
 go_wp2_with(first|((with_reducible apply Za);(·exact rfl);(·exact ii))|((with_reducible apply Zb);(·exact rfl);(·exact rfl);(·exact ii)))
 (try go_frame)
 (refine bodyPost_ret (zz (z:=14) rfl _ _ _ _ rfl inferInstance Tryz.underlying54 rfl (by kernel_rfl)) rfl ?_)
 exact⟨rfl,Bt.below0 (W:=W) (l:=[_]) ii⟩
end Go.Proofs.YtlfjdjndhcmliaaGreatDoor
namespace Go.Proofs.YtlfjdjndhcmliaaGreatDoor
open Go.RowKit Go.ChangeShapes Go.WideShapes Go.Joins
theorem ZjQ(W:World):Fn 5 #[] W (.bool true):=by
 refine⟨?_⟩
 let s:ZO:=⟨some ⟨W.heap.size,0,none⟩,W.heap.size,0,1,1,λ _=>0,λ _=>1⟩
 have hg:ZT s 24:=⟨Nat.le_refl _,(by show (1:Nat)<=4;omega),by decide,by decide,λ k _=>rfl⟩
 have hm:GM s (W.alloc (.cells #[.int .i64 0,.int .i64 1] 67)):=by
  refine⟨λ k _=>rfl,λ k _=>by simp [s],λ k hk=>?_,λ k hk=>?_⟩
  ·obtain rfl:k=0:=by simp [s]at hk;omega
   simp [s]
  ·obtain rfl:k=0:=by simp [s]at hk;omega
   simp [s]
 have c:=QR hg (W.alloc (.cells #[.int .i64 0,.int .i64 1] 67));have c':Calls Tryz.prog 13 #[.agg #[.slice (some ⟨W.heap.size,0,none⟩) 1 1,.int .i64 24]] (W.alloc (.cells #[.int .i64 0,.int .i64 1] 67)) (ZM (.bool true) (W.alloc (.cells #[.int .i64 0,.int .i64 1] 67))):=c
 have d:∀ w:World,Calls Tryz.prog 13 #[.agg #[.slice none 0 0,.int .i64 0]] w (ZM (.bool false) w):=λ w=>by
  let s0:ZO:=⟨none,0,0,0,0,λ _=>0,λ _=>0⟩
  haveI:GM s0 w:=⟨λ k hk=>absurd hk (Nat.not_lt_zero k),λ k hk=>absurd hk (Nat.not_lt_zero k),λ k hk=>absurd hk (Nat.not_lt_zero k),λ k hk=>absurd hk (Nat.not_lt_zero k)⟩
  have hn:¬ ZT s0 0:=λ h=>absurd h.1 (by show ¬ 1<=0;omega)
  exact kA hn (by show (0:Nat)<=9223372036854775807;omega) w
 clear c hm hg;clear s
 go_in
 go_wp2_with(go_at_call 13;(first|(with_reducible refine(Calls.at c').mono ?_)|(with_reducible refine(Calls.at (d _)).mono ?_));rintro e w' ⟨rfl,g,rfl⟩);go_ret;exact ZM.mk rfl grown
end Go.Proofs.YtlfjdjndhcmliaaGreatDoor
namespace Go.Proofs.YtlfjdjndhcmliaaGreatDoor
open Go.ChangeShapes Go.WideShapes Go.ChangeAt Go.RowKit Go.Joins
theorem Tryz.own:ownKnob Tryz.prog.godebug=none:=by kernel_rfl
theorem Tryz.laidOut:laidOutB Tryz.prog=true:=by kernel_rfl
section
variable{H:Type}{enc:TypeId × Value->H}{P:Program}{W W':World}
theorem yl(hl:laidOutB P=true)(hb:Below W.heap.size W W'):∀(ts:List TypeId)(vs:List Value) (ds:List (DataW H)) (ps:List MemPlace),
  ts.all (λ t=>P.readableRec t&&decide (t<P.types.size))=true->DataW.TrodAll enc P W 0 (λ _=>true) true ts vs ds ps->(∀ x∈ps,x.block<W.heap.size) ->
  DataW.TrodAll enc P W' 0 (λ b=>decide (b<W.heap.size)) true ts vs ds ps
 | [],vs,ds,ps,_,h,_=>by obtain⟨rfl,rfl,rfl⟩:=trodAll_nil h;exact trodAll_mk0
 |t::ts,vs,ds,ps,hr,h,hlt=>by
  obtain⟨v,vs',d,ds',p,q,rfl,rfl,rfl,hd,hrest⟩:=trodAll_cons h;simp only [List.all_cons,Bool.and_eq_true,decide_eq_true_eq]at hr
  exact trodAll_cons_mk (Below.trod hl hr.1.1 hr.1.2 hd hb λ x hx=>hlt x (List.mem_append.2 (.inl hx)))
   (yl hl hb ts vs' ds' q hr.2 hrest λ x hx=>hlt x (List.mem_append.2 (.inr hx)))
end
def jY(f:FuncId)(params:Array TypeId):Prop :=
 ∀(H:Type)(enc:TypeId × Value->H)(W:World)(base:Nat)(args:Array Value) (ds:List (DataW H)) (p:List MemPlace),
  (∀(j:Nat) t v,params[j]?=some t->args[j]?=some v->Value.okWide Tryz.prog W .any base t v) ->
  DataW.TrodAll enc Tryz.prog W 0 (λ _=>true) true params.toList args.toList ds p->W.noneFrozen p ->
  (DataW.weightsEach Tryz.prog params.toList ds).all (·<=reachBytes)=true ->
  Calls Tryz.prog f args W λ e W'=>e=.returned (.bool true)/\Below W.heap.size W W'
end Go.Proofs.YtlfjdjndhcmliaaGreatDoor
namespace Go.Proofs.YtlfjdjndhcmliaaGreatDoor
open Go.RowKit Go.Sort Go.ChangeShapes Go.WideShapes Go.Joins Go.Deep
theorem ZkY{W:World}{a:Addr}{cs:List Value}(h:W.cells? 0 a 5=some cs):cs.length=5/\∀ j,j<5->W.cell? (a.add j)=cs[j]?:=by
 unfold World.cells? at h;rw [if_pos (Nat.zero_le _)]at h;refine⟨by simpa using mapM_some_length h,λ j hj=>?_⟩;have:=mapM_some_get h j j (by simp [hj]);exact this
theorem Zks{x:Int}(h:(Lit.int .u8 x).wf=true):∃ b:UInt8,x=b.toNat:=by
 have:0<=x/\x<=255:=by simpa [Lit.wf,IntKind.min,IntKind.max,IntKind.signed,IntKind.bits]using h
 refine⟨UInt8.ofNat x.toNat,?_⟩;have h2:x.toNat<256:=by omega
 simp [UInt8.toNat_ofNat,Nat.mod_eq_of_lt h2];omega
theorem Zgy{H:Type}{enc:TypeId × Value->H}{W:World}{fuel:Nat}{cs:List Value}{x:DataW H × List MemPlace}(h:DataW.trod enc Tryz.prog W 0 (λ _=>true) true fuel 86 cs=some x) :
  ∃ y:QE,cs=y.cs.toList:=by
 obtain⟨xs,n,_,rfl,hl,hlen,hf⟩:=DataW.trod_struct Tryz.underlying86 h;have c5:Tryz.prog.cellsOf 86=5:=by kernel_rfl
 have c1:Tryz.prog.cellsOf 3=1:=by kernel_rfl
 have c8:Tryz.prog.cellsOf 5=1:=by kernel_rfl
 rw [c5]at hl
 match cs,hl with
 | [u0,u1,u2,u3,u4],_ =>
  match xs,hlen with
  | [y0,y1,y2,y3,y4],_ =>
   have h0:=hf 0 _ rfl;have h1:=hf 1 _ rfl;have h2:=hf 2 _ rfl;have h3:=hf 3 _ rfl;have h4:=hf 4 _ rfl;simp [c1,c8]at h0 h1 h2 h3 h4;obtain⟨z0,e0,_,w0⟩:=DataW.trod_int Tryz.underlying5 h0;obtain⟨z1,e1,_,_⟩:=DataW.trod_int Tryz.underlying3 h1;obtain⟨z2,e2,_,_⟩:=DataW.trod_int Tryz.underlying3 h2;obtain⟨z3,e3,_,_⟩:=DataW.trod_int Tryz.underlying3 h3;obtain⟨z4,e4,_,w4⟩:=DataW.trod_int Tryz.underlying5 h4;obtain⟨b0,rfl⟩:=Zks w0;obtain⟨b4,rfl⟩:=Zks w4;simp at e0 e1 e2 e3 e4;subst e0 e1 e2 e3 e4;exact⟨⟨b0,z1,z2,z3,b4⟩,rfl⟩
theorem UL{H:Type}{enc:TypeId × Value->H}{W:World}{base:Nat}{v:Value}{d:DataW H}{ps:List MemPlace}
  (hv:Value.okWide Tryz.prog W .any base 25 v) (h:DataW.Trod enc Tryz.prog W 0 (λ _=>true) true 25 v d ps) :
  ∃(ad:Option Addr)(n cap:Nat)(L:List QE),v=.slice ad n cap/\n<=maxLen/\Zy 5 ad n cap (L.map λ a=>a.cs.toList) W:=by
 obtain⟨a0,len0,cap0,rfl⟩:=okWide_slice Tryz.underlying25 hv;obtain⟨fuel,hf⟩:=h;have hC:Tryz.prog.cellsOf 86=5:=by kernel_rfl
 replace hf:DataW.trod enc Tryz.prog W 0 (λ _=>true) true fuel 25 [.slice a0 len0 cap0]=some (d,ps):=by simpa [Value.cells]using hf
 rcases open_slice Tryz.underlying25 hf with ⟨hcs,hx⟩|⟨a,len,cap,m,n,D,Pl,hcs,_,hl,hm,hmm,hx,hel⟩
 ·simp at hcs;obtain⟨rfl,rfl,rfl⟩:=hcs;exact⟨none,0,0,[],rfl,Nat.zero_le _,rfl,λ k x e=>by simp at e⟩
 ·simp at hcs;obtain⟨rfl,rfl,rfl⟩:=hcs;simp only [if_true]at hmm
  have each:∀ i,i<len0->∃ y:QE,∀(j:Nat) u,y.cs.toList[j]?=some u->W.cell? ((a.add (i*5)).add j)=some u:=by
   intro i hi2;obtain⟨cs,hc,hd⟩:=hel i (by omega);rw [hC]at hc;obtain⟨_,hcell⟩:=ZkY hc;obtain⟨y,rfl⟩:=Zgy hd;refine⟨y,λ j u hu=>?_⟩
   have hj:j<5:=by
    have:=(List.getElem?_eq_some_iff.1 hu).1;simpa [QE.cs]using this
   rw [hcell j hj];exact hu
  by_cases hp:0<len0
  ·obtain⟨b,off,spot⟩:=a
   have hspot:spot=none:=by
    obtain⟨y,h0⟩:=each 0 hp;simpa [Addr.add]using World.cell?_spot (h0 0 _ rfl)
   subst hspot
   have hb:b<W.heap.size:=by
    obtain⟨y,h0⟩:=each 0 hp;simpa [Addr.add]using World.block_lt_of_cell? _ _ (h0 0 _ rfl)
   let f:Nat->QE:=λ k=>if h:k<len0 then Classical.choose (each k h)else⟨0,0,0,0,0⟩
   have hfk:∀ k,k<len0->∀(j:Nat) u,(f k).cs.toList[j]?=some u->W.cell? ⟨b,off+k*5+j,none⟩=some u:=λ k hk j u hu=>by
    have:=Classical.choose_spec (each k hk) j u (by simpa [f,hk]using hu);rw [<-add_plain,<- add_plain];exact this
   refine⟨_,len0,cap0,(List.range len0).map f,rfl,by omega,by simp,λ k x e=>?_⟩
   have hk:k<len0:=by
    have:=(List.getElem?_eq_some_iff.1 e).1;simpa using this
   have e2:x=(f k).cs.toList:=by
    rw [List.getElem?_map,List.getElem?_map,List.getElem?_range hk]at e;exact(Option.some.inj e).symm
   subst e2;exact⟨b,off,rfl,⟨hb⟩,hfk k hk⟩
  ·have:len0=0:=by omega
   subst this;exact⟨_,0,cap0,[],rfl,Nat.zero_le _,rfl,λ k x e=>by simp at e⟩
end Go.Proofs.YtlfjdjndhcmliaaGreatDoor
namespace Go.Proofs.YtlfjdjndhcmliaaGreatDoor
open Go.RowKit Go.Sort
open Go.Maps Go.ChangeMaps
def spT(t:ByteArray):ByteArray:=⟨(t.data.toList.set 9 (t.data.toList.getD 9 0^^^1)).toArray⟩
theorem Zbn(t:ByteArray):(spT t).data.toList=t.data.toList.set 9 (t.data.toList.getD 9 0^^^1):=rfl
theorem ZaI(t:ByteArray):(spT t).size=t.size:=by rw [<-Zi,Zbn,List.length_set,Zi]
def spU(f:Nat->ByteArray)(s j:Nat):ByteArray:=if j=s then spT (f j)else f j
theorem Zb1{h:Hl}{d secs N M mc C:Nat}{ms:List ByteArray}{g:Nat->Option jM}{f:Nat->ByteArray}(i:jR h d secs N M mc C ms g f){k:Nat}(hk:k<secs)(hg:g k=none){s:ByteArray}(hs:s.size=64)(W:World)[hw:Has W h] :
  ∃ h',Has (W.setCell ⟨M,k,none⟩ (.string s)) h'/\jR h' d secs N M mc C (ms.set k s) g (Qw f k s)/\(∀ n,h n=none->h' n=none)/\h M≠none:=by
 obtain⟨cur,m1,m2,m3,m4,m5⟩:=i.med;have hl:(ZG ms).length=secs:=by simp [ZG,i.len]
 rw [hl]at m5 m3;have st:∀ {b:Nat} {cs:Array Value} {t:TypeId},h b=some (.cells cs t)->b≠M->(h.put M (.cells (cur.setIfInBounds k (.string s)) 9)) b=some (.cells cs t):=λ {b cs t} e hb=>by rw [Hl.put_other _ _ hb];exact e
 have cM:C≠M:=λ e=>by
  obtain⟨es,cl,e1,_⟩:=i.map;rw [e,m1]at e1;cases e1
 have uo:∀ x,x≠k->Qw f k s x=f x:=λ x hx=>if_neg hx
 have gk:∀ x y,g x=some y->x≠k:=λ x y e e2=>by rw [e2,hg]at e;cases e
 refine⟨h.put M (.cells (cur.setIfInBounds k (.string s)) 9),⟨λ n o e=>?_⟩,⟨st i.dev i.dM,?_,by simp [i.len],?_,λ x b n c e=>?_,i.inj,i.ne,i.dM,λ x hx e=>?_,i.key,λ x hx=>?_⟩,λ n e=>?_,by rw [m1];simp⟩
 ·by_cases hn:n=M
  ·subst hn;rw [Hl.put_same]at e;cases e;exact heap_setCell (hw.get _ _ m1)
  ·rw [Hl.put_other _ _ hn]at e;rw [Below.heap_setCell _ _ _ _ (λ e2:n=M=>hn e2)];exact hw.get n o e
 ·refine⟨_,Hl.put_same ..,by simpa using m2,?_,QB _,by simp [ZG,i.len];exact m5⟩;have e:(ZG (ms.set k s)).flatten=(ZG ms).flatten.set k (.string s):=by rw [Xe,Xe];simp [Xd,List.map_set]
  rw [e,<- m3];simp only [Array.toList_setIfInBounds,ZG,List.length_map,List.length_set,i.len,Nat.mul_one];rw [List.take_set]
 ·obtain⟨es,cl,e1,e2⟩:=i.map;exact⟨es,cl,by rw [Hl.put_other _ _ cM];exact e1,e2⟩
 ·obtain⟨h1,h2,L,⟨c2,r1,r2⟩,h4⟩:=i.row x b n c e;exact⟨h1,h2,L,⟨c2,st r1 (i.ne x b n c e).2,r2⟩,by rw [uo x (gk x _ e)];exact h4⟩
 ·by_cases hxk:k=x
  ·subst hxk;rw [List.getElem?_set_self (by rw [i.len];exact hx),Qw,if_pos rfl]
  ·rw [List.getElem?_set_ne hxk,uo x (Ne.symm hxk)];exact i.low x hx e
 ·unfold Qw;split
  ·exact hs
  ·exact i.sz x hx
 ·by_cases hn:n=M
  ·subst hn;rw [m1]at e;cases e
  ·rw [Hl.put_other _ _ hn];exact e
theorem Zb3{h:Hl}{d secs N M mc C:Nat}{ms:List ByteArray}{g:Nat->Option jM}{f:Nat->ByteArray}(i:jR h d secs N M mc C ms g f){k b n c:Nat}(hg:g k=some (b,n+1,c)){s:ByteArray}(hs:s.size=64)(W:World)[hw:Has W h] :
  ∃ h',Has (W.setCell ⟨b,n,none⟩ (.string s)) h'/\jR h' d secs N M mc C ms g (Qw f k s)/\(∀ n,h n=none->h' n=none)/\h b≠none:=by
 obtain⟨q1,q2,L,⟨cur,m1,m2,m3,m4,m5⟩,hL,hlast⟩:=i.row k b (n+1) c hg;have hl:(ZG L).length=n+1:=by simp [ZG,hL]
 rw [hl]at m5 m3;have st:∀ {x:Nat} {cs:Array Value} {t:TypeId},h x=some (.cells cs t)->x≠b->(h.put b (.cells (cur.setIfInBounds n (.string s)) 9)) x=some (.cells cs t):=λ {x cs t} e hb=>by rw [Hl.put_other _ _ hb];exact e
 have cb:C≠b:=λ e=>by
  obtain⟨es,cl,e1,_⟩:=i.map;rw [e,m1]at e1;cases e1
 have uo:∀ x,x≠k->Qw f k s x=f x:=λ x hx=>if_neg hx
 have ne:=i.ne k b _ c hg;refine⟨h.put b (.cells (cur.setIfInBounds n (.string s)) 9),⟨λ x o e=>?_⟩,⟨st i.dev (Ne.symm ne.1),?_,i.len,?_,λ x b' n' c' e=>?_,i.inj,i.ne,i.dM,λ x hx e=>?_,i.key,λ x hx=>?_⟩,λ x e=>?_,by rw [m1];simp⟩
 ·by_cases hn:x=b
  ·subst hn;rw [Hl.put_same]at e;cases e;exact heap_setCell (hw.get _ _ m1)
  ·rw [Hl.put_other _ _ hn]at e;rw [Below.heap_setCell _ _ _ _ (λ e2:x=b=>hn e2)];exact hw.get x o e
 ·obtain⟨c2,r1,r2⟩:=i.med;exact⟨c2,st r1 (Ne.symm ne.2),r2⟩
 ·obtain⟨es,cl,e1,e2⟩:=i.map;exact⟨es,cl,by rw [Hl.put_other _ _ cb];exact e1,e2⟩
 ·by_cases hx:x=k
  ·subst hx;rw [hg]at e;cases e;refine⟨q1,q2,L.set n s,⟨_,Hl.put_same ..,by simpa using m2,?_,QB _,by simp [ZG,hL];exact m5⟩,by simp [hL],?_⟩
   ·have e:(ZG (L.set n s)).flatten=(ZG L).flatten.set n (.string s):=by rw [Xe,Xe];simp [Xd,List.map_set]
    rw [e,<- m3];simp only [Array.toList_setIfInBounds,ZG,List.length_map,List.length_set,hL,Nat.mul_one];rw [List.take_set]
   ·rw [List.getLast?_eq_getElem?,List.length_set,hL,Nat.add_sub_cancel,List.getElem?_set_self (by omega),Qw,if_pos rfl]
  ·obtain⟨h1,h2,L2,⟨c2,r1,r2⟩,h4⟩:=i.row x b' n' c' e;exact⟨h1,h2,L2,⟨c2,st r1 (λ e2=>by subst e2;exact hx (i.inj x k _ _ _ _ _ e hg)),r2⟩,by rw [uo x hx];exact h4⟩
 ·have hxk:x≠k:=λ e2=>by rw [e2,hg]at e;cases e
  rw [uo x hxk];exact i.low x hx e
 ·unfold Qw;split
  ·exact hs
  ·exact i.sz x hx
 ·by_cases hn:x=b
  ·subst hn;rw [m1]at e;cases e
  ·rw [Hl.put_other _ _ hn];exact e
structure ByR(b:Nat)(l:List UInt8)(w:World):Prop where
 old:Yc b w
 cell:∀ j (hj:j<l.length),w.cell? ⟨b,j,none⟩=some (.int .u8 (l[j].toNat:Int))
 fr:∀ j,j<l.length->w.frozen? ⟨b,j,none⟩=false
theorem Ziz(s:ByteArray):∃(C:World->Nat)(V:World->World),(∀ W,(convert 9 99 (.string s)).run Tryz.prog W=.ok (.slice (some ⟨W.heap.size,0,none⟩) s.size (C W)) (V W)) /\
  ∀ W,s.size<=C W/\ByR W.heap.size s.data.toList (V W)/\∃ o,V W=W.drew.alloc o:=by
 refine⟨_,_,λ W=>run_bytes_of_string W _ _ _ s Tryz.underlying9 Tryz.underlying99 Tryz.underlying5,λ W=>⟨?_,⟨?_,λ i hi=>?_,λ i hi=>?_⟩,_,rfl⟩⟩
 ·exact grownCap_ge ..
 ·exact⟨by simp⟩
 ·rw [Zi]at hi;refine(World.cell?_alloc_mark W.drew _ _ _ i).trans ?_;rw [bytesRow,Array.getElem?_append_left (by rw [Array.size_map];exact hi),Array.getElem?_map,Array.getElem?_eq_getElem hi];rfl
 ·rw [Zi]at hi;refine(World.frozen?_alloc_mark W.drew _ _ _ _ i).trans ?_
  have hz:s.size<=(bytesRow s (grownCap W s.size 0 5)).size:=by
   unfold bytesRow;rw [Array.size_append,Array.size_map];exact Nat.le_add_right _ _
  rw [decide_eq_false (by omega)];rfl
theorem ByR.put{b:Nat}{l:List UInt8}{w:World}(r:ByR b l w)(j:Nat)(x:UInt8):ByR b (l.set j x) (w.setCell ⟨b,j,none⟩ (.int .u8 (x.toNat:Int))):=by
 haveI:=r.old;refine⟨ii,λ i hi=>?_,λ i hi=>?_⟩
 ·rw [List.length_set]at hi
  by_cases e:j=i
  ·subst e;rw [World.cell?_setCell_same _ _ _ (r.cell j hi),List.getElem_set_self]
  ·rw [World.cell?_setCell_other _ _ _ _ (λ h'=>e (by cases h';rfl)),r.cell i hi];simp [e]
 ·rw [World.frozen?_setCell];exact r.fr i (by rwa [List.length_set]at hi)
theorem ByR.gr{b:Nat}{l:List UInt8}{w:World}(r:ByR b l w)(g:Gr):ByR b l (gr w g):=by
 haveI:=r.old;exact⟨ii,λ i hi=>by simp [go_sem,r.cell i hi],λ i hi=>by simp [go_sem,r.fr i hi]⟩
theorem ByR.conv{b:Nat}{l:List UInt8}{w:World}(r:ByR b l w){n cap:Nat}(hn:l.length=n):(convert 99 9 (.slice (some ⟨b,0,none⟩) n cap)).run Tryz.prog w=.ok (.string ⟨l.toArray⟩) w:=by
 have:=run_convert_bytes_back (P:=Tryz.prog) w 99 9 5 ⟨b,0,none⟩ cap l Tryz.underlying99 Tryz.underlying5 Tryz.underlying9 λ j hj=>by
  have e:(⟨b,0,none⟩:Addr).add j=⟨b,j,none⟩:=(zj b 0 j).trans (by rw [Nat.zero_add]);rw [e];exact r.cell j hj
 rwa [hn]at this
theorem Zg7{W w:World}{h:Hl}[tn:Tn W h w h]{V:World}(hv:∃ o,V=w.drew.alloc o)(j:Nat)(v:Value):Tn W h (V.setCell ⟨w.heap.size,j,none⟩ v) h:=by
 obtain⟨o,rfl⟩:=hv;have hi:=tn.i;have hb:h w.heap.size=none:=hi.none (Nat.le_refl _);have T:Tn W h (w.drew.alloc o) h:=ii;refine⟨T.m.setCell (.inl tn.m.size) v,⟨λ n x e=>?_⟩,tn.x⟩;rw [Below.heap_setCell _ _ _ _ (λ e2:n=w.heap.size=>by rw [e2,hb]at e;cases e)];exact T.i.get n x e
theorem Zev(d secs N:Nat)(f:Nat->ByteArray)(k:Nat)(hk:k<secs):Tu 11 #[.pointer (some ⟨d,0,none⟩),.int .i64 k,.int .i64 9,.int .u8 1] (Qh d secs N f) λ v h=>v=.bool true/\Qh d secs N (Qw f k (spT (f k))) h:=by
 intro W h hw hp;haveI:X3 d secs f W:=⟨N,⟨h,hp,hw⟩⟩
 obtain⟨h4,M,mc,C,ms,gm,i⟩:=hp;have H1:∀ W',[X3 d secs f W']->Fn 31 #[.pointer (some ⟨d,0,none⟩),.int .i64 k] W' (.int .i64 0):=λ W' _=>Vq d secs f W' k hk
 have H2:∀ W',[X3 d secs f W']->Fn 32 #[.pointer (some ⟨d,0,none⟩),.int .i64 k] W' (.string (f k)):=λ W' _=>Zcw d secs f W' k hk
 have hz:=i.sz k hk;have hl:=λ W' (i':Has W' h)=>@qw C gm h i.map W' i' k (by omega)
 have c0:∀ W',Has W' h->W'.cell? ⟨d,0,none⟩=some (.slice (some ⟨M,0,none⟩) secs mc):=λ W' _=>Has.cell i.dev
 have c1:∀ W',Has W' h->W'.cell? ⟨d,1,none⟩=some (.map (some C)):=λ W' _=>Has.cell i.dev
 have sp:(⟨((f k).data.toList.set 9 ((f k).data.toList.getD 9 0^^^1)).toArray⟩:ByteArray)=spT (f k):=rfl;have spz:(spT (f k)).size=64:=by rw [ZaI,hz]
 obtain⟨CC,VV,hcv,hrow⟩:=Ziz (f k);generalize hs:f k=s at *
 obtain⟨b9,hb9⟩:∃ b9,s.data.toList.getD 9 0=b9:=⟨_,rfl⟩
 have hl9:s.data.toList.length=64:=by rw [Zi];exact hz
 have hc9:∀ w,(VV w).cell? ⟨w.heap.size,9,none⟩=some (.int .u8 (b9.toNat:Int)):=λ w=>by
  rw [(hrow w).2.1.cell 9 (by omega),<- hb9,List.getD_eq_getElem?_getD,List.getElem?_eq_getElem (by omega)];rfl
 have hf9:∀ w,(VV w).frozen? ⟨w.heap.size,9,none⟩=false:=λ w=>(hrow w).2.1.fr 9 (by omega)
 have hz':(s.size:Int)=64:=by omega
 have c1':∀ W' [Has W' h],W'.cell? ⟨d,1,none⟩=some (.map (some C)):=λ W' _=>c1 W' ii
 have c0':∀ W' [Has W' h],W'.cell? ⟨d,0,none⟩=some (.slice (some ⟨M,0,none⟩) secs mc):=λ W' _=>c0 W' ii
 obtain⟨x9,hx9⟩:∃ x9,b9^^^1=x9:=⟨_,rfl⟩
 have xo:bits .xor .u8 (b9.toNat:Int) 1=(x9.toNat:Int):=by rw [<-hx9];exact ZgK b9 1
 rw [hb9,hx9]at sp;haveI iV:∀(g:Gr)(x:Value),Has ((VV (gr W g)).setCell ⟨(gr W g).heap.size,9,none⟩ x) h:=λ g x=>(Zg7 (W:=W) (w:=gr W g) (hrow (gr W g)).2.2 9 x).i
 have hV:∀ g:Gr,Tn W h ((VV (gr W g)).setCell ⟨(gr W g).heap.size,9,none⟩ (.int .u8 (x9.toNat:Int))) h:=λ g=>Zg7 (W:=W) (w:=gr W g) (hrow (gr W g)).2.2 9 _
 have hconv:∀(g:Gr)(cap:Nat),(convert 99 9 (.slice (some ⟨(gr W g).heap.size,0,none⟩) 64 cap)).run Tryz.prog ((VV (gr W g)).setCell ⟨(gr W g).heap.size,9,none⟩ (.int .u8 (x9.toNat:Int)))=.ok (.string (spT s)) ((VV (gr W g)).setCell ⟨(gr W g).heap.size,9,none⟩ (.int .u8 (x9.toNat:Int))):=λ g cap=>by
  rw [<-sp];exact((hrow (gr W g)).2.1.put 9 x9).conv (by rw [List.length_set,hl9])
 have hconv2:∀(g g':Gr)(cap:Nat),(convert 99 9 (.slice (some ⟨(gr W g).heap.size,0,none⟩) 64 cap)).run Tryz.prog (gr ((VV (gr W g)).setCell ⟨(gr W g).heap.size,9,none⟩ (.int .u8 (x9.toNat:Int))) g')=.ok (.string (spT s)) (gr ((VV (gr W g)).setCell ⟨(gr W g).heap.size,9,none⟩ (.int .u8 (x9.toNat:Int))) g'):=λ g g' cap=>by
  rw [<-sp];exact(((hrow (gr W g)).2.1.put 9 x9).gr g').conv (by rw [List.length_set,hl9])
 haveI iV0:∀ g:Gr,Has (VV (gr W g)) h:=λ g=>by
  obtain⟨o,e⟩:=(hrow (gr W g)).2.2;rw [e];infer_instance
 have HV:=Lib.hid hV;have HR:=Lib.hid hrow;have hl2:∀ W' [Has W' h],(Instr.lookup 102 (.map (some C)) (.int .i64 k) false).run Tryz.prog W'=.ok (slv (gm k)) W':=λ W' _=>hl W' ii
 clear hl c0 c1 sp hx9 hrow hV hb9 hl9;have hks:(k:Int)<secs:=by omega
 cases hg:gm k with
 |none =>
  rw [hg]at hl2;simp only [slv]at hl2;have hm:=i.low k hk hg;have R:=λ(W':World)(_:Has W' h)=>i.med.rd (n:=secs) (c:=mc) (by simp [ZG,i.len]) W'
  have cr:∀(W':World) [Has W' h],W'.cell? ⟨M,k,none⟩=some (.string s):=λ W' i'=>by
   obtain⟨b,o,e,hb,hc⟩:=(R W' i').cells k [.string s] (by simp [ZG,hm,hs]);cases e;have cm:=hc 0 _ rfl;rw [Nat.zero_add,Nat.mul_one,Nat.add_zero]at cm;exact cm
  obtain⟨cur,m1,_⟩:=i.med;have fr:∀(W':World) [Has W' h],W'.frozen? ⟨M,k,none⟩=false:=λ W' _=>Has.frozen m1
  clear R m1
  go_in
  go_wp2_with(with_reducible refine Fn.go λ g=>?_);refine plZ (.q [0,1,2,3,4,5,6,7] (.x [8] .d)) ?_;simp only [Zk.run,pick,gZ,gS,gA,gN]
  (repeat go_big_quiet_step (exact qZ));refine nZ ?_
  rintro w3 ⟨g3,rfl⟩;go_wp2_with fail;dsimp only [Nx]
  have fin:∀ w:World,Tn W h w h->Zg W h (Qh d secs N (Qw f k (spT s))) (w.setCell ⟨M,k,none⟩ (.string (spT s))):=λ w tn=>by
   obtain⟨h2,i2,dI,x2,nb⟩:=Zb1 i hk hg spz w (hw:=tn.i);exact⟨tn.m.setCell (.inr nb) _,h2,i2,λ n hn e=>x2 n e,h4,M,mc,C,_,gm,dI⟩
  rintro w4 hw4
  have T:Zg W h (Qh d secs N (Qw f k (spT s))) w4:=by
   obtain⟨g4,rfl⟩:=hw4;exact(fin _ (@ZoO _ _ _ _ _ (HV.out _))).gr g4
  clear hw4;go_wp2_with fail;go_ret;exact⟨_,rfl,T.mono λ h' p=>⟨rfl,p⟩⟩
 |some v =>
  obtain⟨b,n,c⟩:=v;obtain⟨hnN,_,L,hr,hL,hlast⟩:=i.row k b n c hg;have hn:0<n:=by rw [<-hL];exact List.length_pos_iff.2 (λ e=>by rw [e]at hlast;cases hlast)
  obtain⟨m,rfl⟩:∃ m,n=m+1:=⟨n-1,by omega⟩
  rw [hg]at hl2;simp only [slv]at hl2;have R:=λ(W':World)(_:Has W' h)=>hr.rd (n:=m+1) (c:=c) (by simp [ZG,hL]) W'
  have cr:∀(W':World) [Has W' h],W'.cell? ⟨b,m,none⟩=some (.string s):=λ W' i'=>by
   obtain⟨b',o,e,hb,hc⟩:=(R W' i').cells m [.string s] (by rw [ZG,List.getElem?_map,show m=L.length-1 by omega,<- List.getLast?_eq_getElem?,hlast,hs];rfl);cases e;have cm:=hc 0 _ rfl;rw [Nat.zero_add,Nat.mul_one,Nat.add_zero]at cm;exact cm
  obtain⟨cur,m1,_⟩:=hr;have fr:∀(W':World) [Has W' h],W'.frozen? ⟨b,m,none⟩=false:=λ W' _=>Has.frozen m1
  clear R m1
  go_in
  go_wp2_with(with_reducible refine Fn.go λ g=>?_);go_ret;refine⟨_,rfl,?_⟩
  have fin:∀ w:World,Tn W h w h->Zg W h (λ h=>Value.bool true=Value.bool true/\Qh d secs N (Qw f k (spT s)) h) (w.setCell ⟨b,m,none⟩ (.string (spT s))):=λ w tn=>by
   obtain⟨h2,i2,dI,x2,nb⟩:=Zb3 i hg spz w (hw:=tn.i);exact⟨tn.m.setCell (.inr nb) _,h2,i2,λ n hn e=>x2 n e,rfl,h4,M,mc,C,ms,gm,dI⟩
  exact fin _ (HV.out _)
end Go.Proofs.YtlfjdjndhcmliaaGreatDoor
