/- WholeOld, part 49. -/
import Derived.Test.YtlfjdjndhcmliaaGreatDoorA48
import Derived.Test.YtlfjdjndhcmliaaGreatDoorA47
import Derived.Test.YtlfjdjndhcmliaaGreatDoorA31
import Derived.Test.YtlfjdjndhcmliaaGreatDoorA13
import Derived.Test.YtlfjdjndhcmliaaGreatDoorA39
set_option maxRecDepth 100000
set_option maxHeartbeats 4000000
set_option linter.all false
namespace Go.Proofs.YtlfjdjndhcmliaaGreatDoor
open Go.RowKit Go.Sort
theorem XM{fn:Func}{u p p2 v:Tmp}{ty ty2:TypeId}{z z2:Nat}(h:fn.results=#[.tmp u,.cell p ty,.cell p2 ty2,.tmp v])(tmps:Array Value)(w:World)(b b2:Nat)(cs cs2:Array Value)(hp:tmps.getD p undef=.pointer (some ⟨b,0,none⟩))(hp2:tmps.getD p2 undef=.pointer (some ⟨b2,0,none⟩))(hs:ZJ b 0 cs z w)(hs2:ZJ b2 0 cs2 z2 w){d d2:TypeDesc}
  (hu:Tryz.prog.underlying ty=some d) (hd:Zek d=true) (hi:(Tryz.prog.info? ty).map (·.size)=some z) (hu2:Tryz.prog.underlying ty2=some d2) (hd2:Zek d2=true) (hi2:(Tryz.prog.info? ty2).map (·.size)=some z2):(results fn tmps).run Tryz.prog w=.ok (.tuple #[tmps.getD u undef,.agg cs,.agg cs2,tmps.getD v undef]) w:=by
 have hp':tmps[p]?.getD undef=.pointer (some ⟨b,0,none⟩):=by simpa using hp
 have hp2':tmps[p2]?.getD undef=.pointer (some ⟨b2,0,none⟩):=by simpa using hp2
 have hl:(loadVar ty ⟨b,0,none⟩).run Tryz.prog w=.ok (.agg cs) w:=by
  cases d<;>first|exact Ys (P:=Tryz.prog) w b 0 z cs ty _ hu rfl hi|cases hd
 have hl2:(loadVar ty2 ⟨b2,0,none⟩).run Tryz.prog w=.ok (.agg cs2) w:=by
  cases d2<;>first|exact Ys (P:=Tryz.prog) w b2 0 z2 cs2 ty2 _ hu2 rfl hi2|cases hd2
 unfold results;rw [h];simp [hp',hp2',asAddr,hl,hl2]
theorem Zeu(s:ZO)(secs:Int)(hs:s.len<=9223372036854775807)(W:World)[gm:GM s W] :
  Calls Tryz.prog 14 #[.agg #[.slice s.ad s.len s.cap,.int .i64 secs]] W (Zjo W):=by
 by_cases h:ZT s secs/\secs<=400/\YB s s.len<=12
 ·obtain⟨h1,h2,h3⟩:=h;obtain⟨n,rfl⟩:=Int.eq_ofNat_of_zero_le (show 0<=secs by have:=h1.2.2.1;omega);haveI:Ky s n:=⟨h1⟩
  exact ZhW s n (by omega) h3 W (gm.old 0 h1.1)
 ·exact ZgH s secs hs h W
theorem PoY.nd{V:VD}{pb txg:Nat}{root:Nd}{C:Nat}{K0:KS}{wd:Wd}{h:Hl}(p:PoY V pb txg root C K0 wd h):Yv root/\KH V.s V.secs root:=by
 obtain⟨K,live,l,sa,scap,ra,rcap,ob,owk,ow,bk,sb,N,F,ms,es,⟨_,⟨g,o,_⟩,_⟩,⟨ok,_⟩,_⟩:=p;exact⟨kK (λ p t hp=>(ok.kept.held p t hp).fit) o,j5 (λ p t hp=>(ok.kept.held p t hp).ok) o⟩
theorem K7{W w:World}{h:Hl}{l:List SP}{p q:SP}(B:Bt W h (p::q::l) w):In (star [p,q]) w:=by
 obtain⟨h0,s,hw⟩:=(B.app [p,q]).mem (i:=0) rfl;exact⟨h0,s,hw⟩
def Zln(W:World)(e:Ending)(w':World):Prop:=∃ q p x H X a1 n1' c1 a2 n2' c2 b,e=.returned (.tuple #[.pointer p,x,.agg (Yx H X (.slice a1 n1' c1) (.slice a2 n2' c2)),.bool b])/\Zco x/\Zg W (λ _=>none) q w' /\
 ((b=false/\q=star [])\/(b=true/\∃(V:VD)(pb:Nat)(n1 n2:Nd)(wd:Wd)(ia:Option Addr)(icap:Nat)(sa:Option Addr)(scap:Nat),(V.rg=(λ _ _=>Z1 0)/\V.ro=false/\Yv n1/\KH V.s V.secs n1)/\p=some ⟨pb,0,none⟩/\x=V.v/\KK wd/\Yx H X (.slice a1 n1' c1) (.slice a2 n2' c2)=KO wd ia icap sa scap/\q=star [PoY ((V.ub 1 n1).ub 2 n2) pb 2 n2 (1000000000-70010-2000000-70010) (λ _ _=>False) wd,WlO (λ _=>True) wd ia icap sa scap]))
theorem VB{W w:World}{l:List SP}{p:Option Addr}{x:Value}{H:Nat->Bool}{X:Nat->ByteArray}{a1 a2:Option Addr}{n1 c1 n2 c2:Nat}(B:Bt W (λ _=>none) l w)(hx:Zco x):Zln W (.returned (.tuple #[.pointer p,x,.agg (Yx H X (.slice a1 n1 c1) (.slice a2 n2 c2)),.bool false])) w :=
 ⟨star [],_,_,_,_,_,_,_,_,_,_,_,rfl,hx,B.t.mono λ _ _=>trivial,.inl ⟨rfl,rfl⟩⟩
abbrev noW:Wd:=⟨λ _=>none,[]⟩
theorem Zlu:KK noW:=⟨by simp,by simp,by simp,by simp,by simp⟩
section
variable{ops:Array Oper}{rest:List Oper}{Kq:Act->Prop}{a:Act}{Cw:World->Prop}{d:Option Tmp}{ty:TypeId}{pos:String}{aft:Array Edge}
theorem kS(h:wpQuiet Tryz.prog ops Cw Kq rest (a.put d (.agg wl0))):wpQuiet Tryz.prog ops Cw Kq ({ dst:=d,op:=.build 39 #[],type:=ty,pos:=pos,after:=aft,guard:=none }::rest) a:=by
 refine YE (v:=.agg _) rfl (λ w hw=>?_) h;simp only [execOp,List.map_toArray,List.map_nil,Sem.run_bind,Zkl.run w,Result.andThen_ok,Sem.run_pure]
end
theorem ZiD(s:ZO)(secs:Int)(hs:s.len<=9223372036854775807)(ad:Option Addr)(n cap:Nat)(L:List QE)(hn:n<=12)(W:World)[gm:GM s W](A:Zy 5 ad n cap (L.map λ a=>a.cs.toList) W) :
  Calls Tryz.prog 6 #[.agg #[.slice s.ad s.len s.cap,.int .i64 secs],.slice ad n cap] W (Zln W):=by
 have FR:=λ(w:World)(_:GM s w)=>Zeu s secs hs w
 haveI BZ:=Bt.zero W
 go_in
 go_wp2_with(first|(with_reducible apply ZD)|((with_reducible apply Za);(·exact rfl);(·exact ii)));refine(FR _ ii).mono ?_;rintro e w2 ⟨q,T,hR⟩;have B1:=Bt.join (W:=W) (h:=λ _=>none) ii T.new1.1 T.new1.2;clear T FR BZ;rcases hR with ⟨p,x,hx,rfl,rfl⟩|⟨V,pb,n',hv,rfl,rfl⟩
 ·have Hx:=hx;obtain⟨x1,x2,x3,x4,x5,x6,x7,x8,x9,x10,rfl⟩:=hx;dsimp only;go_wp2_with((with_reducible apply Zb);(·exact rfl);(·exact rfl);(·exact ii));refine plZ (.q [0,2] (.f [1] (.x [3,4] (.q [5] .d)))) ?_;simp only [Zk.run,pick,gZ,gS,gA,gN]
  (repeat(first|((with_reducible apply Zc);(·exact rfl);(·rintro _ ⟨gq,rfl⟩;exact ii);go_frame)|go_big_quiet_step (exact qZ)));refine nZ ?_
  (with_reducible apply kS)
  go_frame
  (repeat go_big_quiet_step (exact qZ));refine nZ ?_
  refine Z4 ?_;intro w3 B2;clear B1;go_wp2_with((with_reducible apply Zb);(·exact rfl);(·exact rfl);(·exact ii));dsimp only [Nx]
  (try go_frame)
  (repeat go_big_quiet_step (exact qZ));refine nZ ?_
  refine Z4 ?_;intro w4 B3;clear B2;go_wp2_with fail
  (refine bodyPost_ret (XM (z:=4) (z2:=66) rfl _ _ _ _ _ _ rfl rfl ii ii Tryz.underlying31 rfl (by kernel_rfl) Tryz.underlying39 rfl (by kernel_rfl)) rfl ?_)
  exact VB B3 Hx
 ·have HV:=Lib.hid hv;clear hv
  have hn1:Yv n'/\KH V.s V.secs n':=by
   obtain⟨h0,p,j⟩:=B1.mem (i:=0) rfl;exact PoY.nd (V:=V.ub 1 n') p
  have HN:=Lib.hid hn1;clear hn1;replace B1:=B1.head (q:=Xn (V.ub 1 n') pb 1 n' (1000000000-70010) (λ _ _=>False) noW) λ h p=>p.s
  have CH:TqA (Kf ad n cap L) 9 #[pV pb,.agg Tryz.zeroCells39,.slice ad n cap] (star [Xn (V.ub 1 n') pb 1 n' (1000000000-70010) (λ _ _=>False) noW,WlO (λ _=>True) noW none 0 none 0]) (Zi3 (V.ub 1 n') pb 1 n' (1000000000-70010-2000000) (λ _ _=>False) λ _=>True):=by
   have e:Tryz.zeroCells39=wl0:=by kernel_rfl
   rw [e];exact Zc3 (wd:=noW) (by omega) (by omega) ad n cap L hn Zlu none none 0 0 (λ _=>True) λ _ _ _ _=>trivial
  have A0:Kf ad n cap L W (λ _=>none):=⟨A,λ _ _ _=>rfl⟩
  have SY:=λ(root:Nd)(wd:Wd)=>VJ (V:=V.ub 1 n') (pb:=pb) (txg:=1) (root:=root) (C:=1000000000-70010-2000000) (K0:=λ _ _=>False) (wd:=wd) (by omega) (by omega)
  dsimp only;go_wp2_with((with_reducible apply Zb);(·exact rfl);(·exact rfl);(·exact ii));refine ZB (W:=W) (h:=λ _=>none) (l:=[Zd w2.heap.size V.cs 31,Xn (V.ub 1 n') pb 1 n' (1000000000-70010) (λ _ _=>False) noW,Zd (W.heap.size+1+1) wl0 39,Zd (W.heap.size+1) #[.slice none 0 0,.int .i64 0,.slice none 0 0,.slice none 0 0] 31,Zd W.heap.size #[.slice s.ad s.len s.cap,.int .i64 secs] 24]) ii ?_;intro w3 B3;have B4:Bt W (λ _=>none) [_,_,_,_,_,Zw 3 1 none 0 0 [],Zw 35 64 none 0 0 []] w3:=(B3.more (Zw.nil 3 1 _)).more (Zw.nil 35 64 _);have B5:=Bt.oS (B4) [5,6,1,0,2,3,4];have B5a:=(B5.app [_,_]).head (q:=WlO (λ _=>True) noW none 0 none 0) λ h s=>⟨s,trivial⟩
  have B5b:=Bt.oS (B5a) [1,0,2,3,4,5];have B6:=B5b.app [_,_];clear B1 B3 B4 B5 B5a B5b;refine(Bt.callA CH A0 (B:=B6)).mono ?_;rintro e w4 ⟨v,q,rfl,hR,B7⟩;clear B6 CH A0;rcases hR with ⟨H,X,a1,n1,c1,a2,n2,c2,wd',rfl,rfl⟩|⟨wd,ia,icap,sa,scap,o,rfl,rfl⟩
  ·dsimp only;go_wp2_with(first|(with_reducible apply ZD)|((with_reducible apply Zb);(·exact rfl);(·exact rfl);(·exact ii)));refine Yn (W:=W) (h:=λ _=>none) (l:=[Zd w4.heap.size (Yx H X (.slice a1 n1 c1) (.slice a2 n2 c2)) 39,star [Xn (V.ub 1 n') pb 1 n' (1000000000-70010-2000000) (λ _ _=>False) wd',λ _=>True],Zd w2.heap.size V.cs 31,Zd (W.heap.size+1+1) wl0 39,Zd (W.heap.size+1) #[.slice none 0 0,.int .i64 0,.slice none 0 0,.slice none 0 0] 31,Zd W.heap.size #[.slice s.ad s.len s.cap,.int .i64 secs] 24]) ii ?_;intro w5 C0;have C1:=Bt.oS (C0) [2,0,1,3,4,5];obtain⟨HL,hHL⟩:∃ HL:List SP,HL=[Zd w2.heap.size V.cs 31,Zd w4.heap.size (Yx H X (.slice a1 n1 c1) (.slice a2 n2 c2)) 39]:=⟨_,rfl⟩
   have i1:∀ x:JD (star HL),Zh x.w w2.heap.size V.cs:=λ x=>ZU x.h (k:=0) (by rw [hHL];rfl)
   have i2:∀ x:JD (star HL),Zh x.w w4.heap.size (Yx H X (.slice a1 n1 c1) (.slice a2 n2 c2)):=λ x=>ZU x.h (k:=1) (by rw [hHL];rfl)
   have HHL:=Lib.hid hHL;have in0:In (star HL) w5:=by rw [hHL];exact K7 C1
   clear hHL B7 C0;have GH:=Zq (star HL);haveI:Nonempty (JD (star HL)):=⟨⟨w5,in0⟩⟩
   refine ZZ (YT (star HL)) [6,10] (.q [3,4,5] (.f [0,1,2] (.x [6] (.q [9] (.c 7 (.c 8 (.x [10] (.x [11] (.q [12] .d))))))))) GH (YT.of in0) (by kernel_rfl) (by kernel_rfl) ?_;simp only [Zk.runC,pick,List.getElem?_cons_zero,List.getElem?_cons_succ,List.cons_append,List.nil_append]
   (repeat(first|((with_reducible apply Zc);(·exact rfl);(·rintro _ ⟨gq,rfl⟩;exact ii);go_frame)|go_big_quiet_step (exact qZ)));refine nZ ?_
   (repeat(first|((with_reducible apply Zc);(·exact rfl);(·rintro _ ⟨gq,rfl⟩;exact ii);go_frame)|go_big_quiet_step (exact qZ)));refine nZ ?_
   refine Z4 ?_;intro w6 C2;clear C1 in0;go_wp2_with fail;dsimp only [Nx];refine⟨_,⟨Zq _,λ v hv=>hv⟩,λ _=>YT.of (by rw [HHL.out];exact K7 C2),?_⟩
   (try go_frame)
   (repeat go_big_quiet_step (exact qZ));refine nZ ?_
   (repeat(first|((with_reducible apply Zc);(·exact rfl);(·rintro _ ⟨gq,rfl⟩;exact ii);go_frame)|go_big_quiet_step (exact qZ)));refine nZ ?_
   (repeat(first|((with_reducible apply Zc);(·exact rfl);(·rintro _ ⟨gq,rfl⟩;exact ii);go_frame)|go_big_quiet_step (exact qZ)));refine nZ ?_
   rintro w8 hw8;have D1:Bt W (λ _=>none) _ w8:=C2.cls hw8;clear hw8 C2;go_wp2_with((with_reducible apply Zb);(·exact rfl);(·exact rfl);(·exact ii));dsimp only [Nx];refine⟨_,⟨Zq _,λ v hv=>hv⟩,λ _=>YT.of (by rw [HHL.out];exact K7 ii),?_⟩;refine Z4 ?_;intro w9 D2;clear D1;go_wp2_with((with_reducible apply Zb);(·exact rfl);(·exact rfl);(·exact ii));dsimp only [Nx];refine⟨_,⟨Zq _,λ v hv=>hv⟩,λ h=>absurd h (by decide),?_⟩
   (try go_frame)
   (repeat go_big_quiet_step (exact qZ));refine nZ ?_
   refine Z4 ?_;intro w10 D3;clear D2;go_wp2_with fail
   (refine bodyPost_ret (XM (z:=4) (z2:=66) rfl _ _ _ _ _ _ rfl rfl ii ii Tryz.underlying31 rfl (by kernel_rfl) Tryz.underlying39 rfl (by kernel_rfl)) rfl ?_)
   exact VB D3 V.isDv
  ·dsimp only;unfold KO;replace B7:=B7.flat;simp only [List.cons_append,List.nil_append]at B7;go_wp2_with(first|(with_reducible apply ZD)|((with_reducible apply Zb);(·exact rfl);(·exact rfl);(·exact ii)));refine Yn (W:=W) (h:=λ _=>none) (l:=[Zd w4.heap.size (Yx (Yi wd.live) (Yf wd.live) (.slice ia wd.snaps.length icap) (.slice sa wd.snaps.length scap)) 39,Xn (V.ub 1 n') pb 1 n' (1000000000-70010-2000000) (λ _ _=>False) wd,WlO (λ _=>True) wd ia icap sa scap,Zd w2.heap.size V.cs 31,Zd (W.heap.size+1+1) wl0 39,Zd (W.heap.size+1) #[.slice none 0 0,.int .i64 0,.slice none 0 0,.slice none 0 0] 31,Zd W.heap.size #[.slice s.ad s.len s.cap,.int .i64 secs] 24]) ii ?_;intro w5 C0;have C1:=Bt.oS (C0) [3,0,1,2,4,5,6];obtain⟨HL,hHL⟩:∃ HL:List SP,HL=[Zd w2.heap.size V.cs 31,Zd w4.heap.size (Yx (Yi wd.live) (Yf wd.live) (.slice ia wd.snaps.length icap) (.slice sa wd.snaps.length scap)) 39]:=⟨_,rfl⟩
   have i1:∀ x:JD (star HL),Zh x.w w2.heap.size V.cs:=λ x=>ZU x.h (k:=0) (by rw [hHL];rfl)
   have i2:∀ x:JD (star HL),Zh x.w w4.heap.size (Yx (Yi wd.live) (Yf wd.live) (.slice ia wd.snaps.length icap) (.slice sa wd.snaps.length scap)):=λ x=>ZU x.h (k:=1) (by rw [hHL];rfl)
   have HHL:=Lib.hid hHL;have in0:In (star HL) w5:=by rw [hHL];exact K7 C1
   clear hHL B7 C0;have GH:=Zq (star HL);haveI:Nonempty (JD (star HL)):=⟨⟨w5,in0⟩⟩
   refine ZZ (YT (star HL)) [6,10] (.q [3,4,5] (.f [0,1,2] (.x [6] (.q [9] (.c 7 (.c 8 (.x [10] (.x [11] (.q [12] .d))))))))) GH (YT.of in0) (by kernel_rfl) (by kernel_rfl) ?_;simp only [Zk.runC,pick,List.getElem?_cons_zero,List.getElem?_cons_succ,List.cons_append,List.nil_append]
   (repeat(first|((with_reducible apply Zc);(·exact rfl);(·rintro _ ⟨gq,rfl⟩;exact ii);go_frame)|go_big_quiet_step (exact qZ)));refine nZ ?_
   (repeat(first|((with_reducible apply Zc);(·exact rfl);(·rintro _ ⟨gq,rfl⟩;exact ii);go_frame)|go_big_quiet_step (exact qZ)));refine nZ ?_
   refine Z4 ?_;intro w6 C2;clear C1 in0;go_wp2_with fail;refine(Bt.call (SY n' wd)).mono ?_;rintro e w7 ⟨v,q,rfl,hR,C3⟩;clear C2 SY;dsimp only;rcases hR with ⟨er,he,rfl,rfl⟩|⟨n2,rfl,rfl⟩
   ·have hne:(er==0)=false:=by simp [he]
    clear he;go_wp2_with fail;dsimp only [Nx];refine⟨_,⟨Zq _,λ v hv=>hv⟩,λ _=>YT.of (by rw [HHL.out];exact K7 C3),?_⟩
    (try go_frame)
    (repeat go_big_quiet_step (exact qZ));refine nZ ?_
    (repeat(first|((with_reducible apply Zc);(·exact rfl);(·rintro _ ⟨gq,rfl⟩;exact ii);go_frame)|go_big_quiet_step (exact qZ)));refine nZ ?_
    (repeat(first|((with_reducible apply Zc);(·exact rfl);(·rintro _ ⟨gq,rfl⟩;exact ii);go_frame)|go_big_quiet_step (exact qZ)));refine nZ ?_
    rintro w8 hw8;have D1:Bt W (λ _=>none) _ w8:=C3.cls hw8;clear hw8 C3;go_wp2_with((with_reducible apply Zb);(·exact rfl);(·exact rfl);(·exact ii));dsimp only [Nx];refine⟨_,⟨Zq _,λ v hv=>hv⟩,λ _=>YT.of (by rw [HHL.out];exact K7 ii),?_⟩;refine Z4 ?_;intro w9 D2;clear D1;go_wp2_with((with_reducible apply Zb);(·exact rfl);(·exact rfl);(·exact ii));dsimp only [Nx];refine⟨_,⟨Zq _,λ v hv=>hv⟩,λ h=>absurd h (by decide),?_⟩
    (try go_frame)
    (repeat go_big_quiet_step (exact qZ));refine nZ ?_
    refine Z4 ?_;intro w10 D3;clear D2;go_wp2_with fail
    (refine bodyPost_ret (XM (z:=4) (z2:=66) rfl _ _ _ _ _ _ rfl rfl ii ii Tryz.underlying31 rfl (by kernel_rfl) Tryz.underlying39 rfl (by kernel_rfl)) rfl ?_)
    exact VB D3 V.isDv
   ·go_wp2_with fail;dsimp only [Nx];refine⟨_,⟨Zq _,λ v hv=>hv⟩,λ _=>YT.of (by rw [HHL.out];exact K7 C3),?_⟩
    (try go_frame)
    (repeat go_big_quiet_step (exact qZ));refine nZ ?_
    (repeat(first|((with_reducible apply Zc);(·exact rfl);(·rintro _ ⟨gq,rfl⟩;exact ii);go_frame)|go_big_quiet_step (exact qZ)));refine nZ ?_
    (repeat(first|((with_reducible apply Zc);(·exact rfl);(·rintro _ ⟨gq,rfl⟩;exact ii);go_frame)|go_big_quiet_step (exact qZ)));refine nZ ?_
    rintro w8 hw8;have D1:Bt W (λ _=>none) _ w8:=C3.cls hw8;clear hw8 C3;go_wp2_with((with_reducible apply Zb);(·exact rfl);(·exact rfl);(·exact ii));dsimp only [Nx];refine⟨_,⟨Zq _,λ v hv=>hv⟩,λ _=>YT.of (by rw [HHL.out];exact K7 ii),?_⟩;refine Z4 ?_;intro w9 D2;clear D1;go_wp2_with((with_reducible apply Zb);(·exact rfl);(·exact rfl);(·exact ii));dsimp only [Nx];refine⟨_,⟨Zq _,λ v hv=>hv⟩,λ h=>absurd h (by decide),?_⟩
    (try go_frame)
    (repeat go_big_quiet_step (exact qZ));refine nZ ?_
    refine Z4 ?_;intro w10 D3;clear D2;go_wp2_with fail
    (refine bodyPost_ret (XM (z:=4) (z2:=66) rfl _ _ _ _ _ _ rfl rfl ii ii Tryz.underlying31 rfl (by kernel_rfl) Tryz.underlying39 rfl (by kernel_rfl)) rfl ?_)
    have D4:=D3.drop.drop;exact⟨star [PoY ((V.ub 1 n').ub 2 n2) pb 2 n2 (1000000000-70010-2000000-70010) (λ _ _=>False) wd,WlO (λ _=>True) wd ia icap sa scap],some ⟨pb,0,none⟩,V.v,_,_,_,_,_,_,_,_,true,rfl,V.isDv,(D4.app [_,_]).fin_at 0 rfl,.inr ⟨rfl,V,pb,n',n2,wd,ia,icap,sa,scap,⟨HV.out.1,HV.out.2,HN.out⟩,rfl,rfl,o,rfl,rfl⟩⟩
instance(priority:=low) ZqF(b:Nat)(s:ByteArray)(i:Int)(W:World)[k:Zh W b #[.string s,.int .i64 i]]:yc b s i W:=by
 have ho:=k.old;obtain⟨t,e⟩:=k.get;exact⟨ho,by simp [World.cell?,e],by simp [World.cell?,e],by simp [World.frozen?,e]⟩
theorem Bt.gm{W w:World}{l:List SP}{t:ZO}(B:Bt W (λ _=>none) l w)(g:GM t W):GM t w:=by
 obtain⟨g,rfl⟩:=Zf B.below0;infer_instance
abbrev uz:Array Value:=Jn 0 Nd.none
theorem Zd1(s:ZO)(secs:Int)(t:ByteArray)(hz:t.size=256)(hne:t.extract 224 256≠bs (Yh (t.extract 0 224)) 4)(W:World) :
  Fn 136 #[.agg #[.slice s.ad s.len s.cap,.int .i64 secs],.string t] W (.tuple #[.agg uz,.int .i64 4]):=by
 refine⟨?_⟩;obtain⟨u,hu⟩:∃ u,t.extract 0 224=u:=⟨_,rfl⟩
 obtain⟨x,hx⟩:∃ x,Yh u=x:=⟨_,rfl⟩
 rw [hu,hx]at hne;have huz:u.size=224:=by rw [<-hu,ByteArray.size_extract];omega
 have S1:∀ w,Fn 122 #[.string u] w (.agg #[.int .u64 (x.a:Int),.int .u64 (x.b:Int),.int .u64 (x.c:Int),.int .u64 (x.d:Int)]):=λ w=>⟨by rw [<-hx];exact Qx _ (by omega) w⟩
 have e1:((t.extract 224 256).toList==(bs x 4).toList)=false:=by
  refine beq_eq_false_iff_ne.2 λ e=>hne ?_
  rw [ByteArray.toList_eq,ByteArray.toList_eq]at e;exact Yu e
 clear hx hne;haveI BZ:=Bt.zero W
 go_in
 go_wp2_with fail;refine plZ (.q [0,1,2,3,4,5,6,7] .d) ?_;simp only [Zk.run,pick,gZ,gS,gA,gN]
 (repeat go_big_quiet_step (exact qZ));refine nZ ?_
 rintro w1 ⟨g1,rfl⟩;go_wp2_with((with_reducible apply Zb);(·exact rfl);(·exact rfl);(·exact ii))
 (refine bodyPost_ret (Zt (z:=14) rfl _ _ _ _ rfl inferInstance Tryz.underlying54 rfl (by kernel_rfl)) rfl ?_)
 exact⟨rfl,Bt.below0 (W:=W) (l:=[_,_]) ii⟩
theorem Zhr{s:ZO}{secs txg:Int}{n:Nd}(h:1<=txg/\txg<=4294967295)[Yv n] :
  (ubH s secs txg n).data.toList=qW.data.toList++((Qp txg 8).data.toList++((bs (Yh (Xh s secs s.len)) 4).data.toList++(n.bytes.data.toList++List.replicate 48 0))):=by
 unfold ubH QG;rw [ZQ,Uk h,Yj];unfold ubR;rw [ZQ,ZQ,ZQ,Ju (by omega) (by omega),List.append_assoc,List.append_assoc,List.append_assoc]
theorem ZgU{t:ByteArray}{x:S4}(hx:x.ok)(A B:List UInt8)(i:Int)(hi:0<=i)(hA:A.length=i.toNat)(h:t.data.toList=A++((bs x 4).data.toList++B)):zU t i=x:=by
 have hb:(bs x 4).data.toList=(Qp x.a 8).data.toList++((Qp x.b 8).data.toList++((Qp x.c 8).data.toList++(Qp x.d 8).data.toList)):=by
  simp only [bs,ZQ,S4.nth];simp
 rw [hb]at h;simp only [List.append_assoc]at h;obtain⟨q0,q1,q2,q3⟩:=hx;have s8:∀ n:Nat,n<MM->0<=(n:Int)/\(n:Int)<256^Int.toNat 8:=λ n hn=>⟨by omega,by rw [show (256:Int)^Int.toNat 8=(MM:Nat) by decide];omega⟩
 have l2:=h;have f0:=ZY t _ _ x.a i 8 (s8 _ q0).1 (s8 _ q0).2 hi (by omega) hA l2;rw [<-List.append_assoc]at l2;have f1:=ZY t _ _ x.b (i+8) 8 (s8 _ q1).1 (s8 _ q1).2 (by omega) (by omega) (by simp only [List.length_append,Zi,ZF,hA];omega) l2;rw [<-List.append_assoc]at l2;have f2:=ZY t _ _ x.c (i+16) 8 (s8 _ q2).1 (s8 _ q2).2 (by omega) (by omega) (by simp only [List.length_append,Zi,ZF,hA];omega) l2;rw [<-List.append_assoc]at l2;have f3:=ZY t _ _ x.d (i+24) 8 (s8 _ q3).1 (s8 _ q3).2 (by omega) (by omega) (by simp only [List.length_append,Zi,ZF,hA];omega) l2;unfold zU;rw [f0,f1,f2,f3];rfl
section
variable{ops:Array Oper}{C:World->Prop}{K:Act->Prop}{rest:List Oper}{a:Act}{d:Option Tmp}{ty:TypeId}{pos:String}{aft:Array Edge}
theorem VS{x y:Operand}{s t:ByteArray}{t':TypeId}(hx:a.eval x=.string s)(hy:a.eval y=.string t)(e:s=t)(h:wpQuiet Tryz.prog ops C K rest (a.put d (.bool false))) :
  wpQuiet Tryz.prog ops C K ({ dst:=d,op:=.binOp .neq 9 x y t',type:=ty,pos:=pos,after:=aft,guard:=none }::rest) a:=by
 subst e;refine YE (v:=.bool false) rfl (λ w hw=>?_) h;have hb:(binOp .neq 9 (.string s) (.string s)).run Tryz.prog w=.ok (.bool false) w:=by simp [go_sem]
 have hg:(eqGuard .neq 9 x y (.string s) (.string s)).run Tryz.prog w=.ok () w:=by unfold eqGuard;simp [go_sem]
 simp only [execOp,hx,hy,Sem.run_bind,hb,hg,Result.andThen_ok,Sem.run_pure]
end
theorem Zdh(u v:ByteArray):(u++v).extract 0 u.size=u/\(u++v).extract u.size (u.size+v.size)=v:=by
 constructor
 ·apply Yu;rw [Lib.extract_eq,ZQ,<- Zi,List.drop_zero,Nat.sub_zero,List.take_left' rfl]
 ·apply Yu;rw [Lib.extract_eq,ZQ,<- Zi u,List.drop_left' rfl,<- Zi v,Nat.add_sub_cancel_left,List.take_length]
theorem U5(s:ZO)(secs:Int)[k:Ky s secs](txg:Int)(n:Nd)[f:Yv n](hn:KH s secs n)(h:1<=txg/\txg<=4294967295)(W:World)[m:GM s W] :
  Fn 136 #[.agg #[.slice s.ad s.len s.cap,.int .i64 secs],.string (ubS s secs txg n)] W (.tuple #[.agg (Jn txg n),.int .i64 0]):=by
 refine⟨?_⟩;obtain⟨g,hg⟩:∃ g,Xh s secs s.len=g:=⟨_,rfl⟩
 have hgz:g.size<=65536:=by have:=k.h.2.1;rw [<-hg,jy];omega
 obtain⟨y,hy⟩:∃ y,Yh g=y:=⟨_,rfl⟩
 have hl:=Zhr (s:=s) (secs:=secs) (n:=n) h;have huz:=zi (s:=s) (secs:=secs) (n:=n) h;have htz:=KR (s:=s) (secs:=secs) (n:=n) h;have hx:=Zdh (ubH s secs txg n) (bs (Yh (ubH s secs txg n)) 4);have ht:ubS s secs txg n=ubH s secs txg n++bs (Yh (ubH s secs txg n)) 4:=rfl;generalize ubS s secs txg n=t at *
 generalize ubH s secs txg n=u at *
 obtain⟨x,hxx⟩:∃ x,Yh u=x:=⟨_,rfl⟩
 rw [hg,hy]at hl;have hyo:y.ok:=by rw [<-hy];exact VM _
 rw [<-ht,huz,XS,hxx]at hx;obtain⟨x0,x1⟩:=hx;have S1:∀ w,Fn 122 #[.string u] w (.agg #[.int .u64 (x.a:Int),.int .u64 (x.b:Int),.int .u64 (x.c:Int),.int .u64 (x.d:Int)]):=λ w=>⟨by rw [<-hxx];exact Qx _ (by omega) w⟩
 have S2:∀ w,Fn 122 #[.string g] w (.agg #[.int .u64 (y.a:Int),.int .u64 (y.b:Int),.int .u64 (y.c:Int),.int .u64 (y.d:Int)]):=λ w=>⟨by rw [<-hy];exact Qx _ (by omega) w⟩
 have GB:∀ w,[GM s w]->Fn 123 #[.agg #[.slice s.ad s.len s.cap,.int .i64 secs]] w (.string g):=λ w _=>by rw [<-hg];infer_instance
 have RN:∀ w,Fn 142 #[.string n.bytes] w (.tuple #[.agg n.cs,.bool true,.int .i64 0]):=λ w=>jC n w
 have NR:∀ w,[GM s w]->Fn 145 #[.agg #[.slice s.ad s.len s.cap,.int .i64 secs],.agg #[.int .i64 n.size,.int .i64 n.root.ag,.int .i64 n.root.aa,.int .i64 n.root.bg,.int .i64 n.root.ba,.bool n.root.two,.int .i64 n.root.size,.int .i64 n.root.level,.int .i64 n.root.birth,.int .u64 n.root.sum.a,.int .u64 n.root.sum.b,.int .u64 n.root.sum.c,.int .u64 n.root.sum.d]] w (.bool true):=λ w _=>jr s secs w n hn
 have hb:=n.bytes_size;have l2:=hl;rw [<-List.append_assoc]at l2;have l3:=l2;rw [<-List.append_assoc]at l3;have l4:=l3;rw [<-List.append_assoc]at l4;have mz:qW.data.toList.length=8:=rfl;have bz:(bs y 4).data.toList.length=32:=by rw [Zi,XS]
 have nz:n.bytes.data.toList.length=128:=by rw [Zi,hb]
 have lz:(Qp txg 8).data.toList.length=8:=by rw [Zi,ZF]
 have a0:Jg u 0 8=qW:=by
  unfold Jg;rw [if_pos (by omega)];apply Yu;rw [Lib.extract_eq,hl];exact mid [] _ _ 0 8 rfl mz
 have a1:yS u 8=txg/\zQ u 8=0/\qe u 8=16:=by
  have f:=ZY u _ _ txg 8 8 (by omega)
   (show txg<256^8 by omega) (by omega) (by omega) (by rw [mz];rfl) hl
  unfold yS zQ qe;rw [f,huz];exact⟨if_pos (by omega),by rw [if_pos (by omega),if_pos (by omega)],if_pos (by omega)⟩
 have a2:zU u 16=y:=ZgU hyo _ _ 16 (by omega) (by rw [List.length_append,mz,lz];rfl) l2
 have a3:Jg u 48 128=n.bytes:=by
  unfold Jg;rw [if_pos (by omega)];apply Yu;rw [Lib.extract_eq,l3];exact mid _ _ _ _ _ (by rw [List.length_append,List.length_append,mz,lz,bz];rfl) (by rw [nz];rfl)
 have a4:Qd u 176=true:=by
  refine J4 _ _ ?_;rw [l4,List.drop_left' (by rw [List.length_append,List.length_append,List.length_append,mz,lz,bz,nz];rfl)];exact λ b hb=>(List.mem_replicate.1 hb).2
 haveI:Bd u 0:=⟨by omega,by omega,by omega⟩
 haveI:Bd u 8:=⟨by omega,by omega,by omega⟩
 haveI:Bd u 48:=⟨by omega,by omega,by omega⟩
 haveI:Bd u 176:=⟨by omega,by omega,by omega⟩
 have T0:∀(b:Nat)(w:World) [yc b u 0 w],yF 140 #[.pointer (some ⟨b,0,none⟩),.int .i64 8] w (.tuple #[.string qW,.int .i64 0]) (w.setCell ⟨b,1,none⟩ (.int .i64 8)):=λ b w _=>by
  have:=zF b u 0 8 (by omega) (by omega) w
  rwa [a0,show Jj u 0 8=0 from if_pos (by omega),show X8 u 0 8=8 from if_pos (by omega)]at this
 have T1:∀(b:Nat)(w:World) [yc b u 8 w],yF 143 #[.pointer (some ⟨b,0,none⟩)] w (.tuple #[.int .i64 txg,.int .i64 0]) (w.setCell ⟨b,1,none⟩ (.int .i64 16)):=λ b w _=>by
  have:=Zcr b u 8 w
  rwa [a1.1,a1.2.1,a1.2.2]at this
 have T2:∀(b:Nat)(w:World) [yc b u 16 w],yF 191 #[.pointer (some ⟨b,0,none⟩)] w (.tuple #[.agg #[.int .u64 y.a,.int .u64 y.b,.int .u64 y.c,.int .u64 y.d],.int .i64 0]) (w.setCell ⟨b,1,none⟩ (.int .i64 48)):=λ b w _=>by
  have:=kr b u 16 w (by omega) (by omega) (by omega)
  rwa [a2]at this
 have T3:∀(b:Nat)(w:World) [yc b u 48 w],yF 140 #[.pointer (some ⟨b,0,none⟩),.int .i64 128] w (.tuple #[.string n.bytes,.int .i64 0]) (w.setCell ⟨b,1,none⟩ (.int .i64 176)):=λ b w _=>by
  have:=zF b u 48 128 (by omega) (by omega) w
  rwa [a3,show Jj u 48 128=0 from if_pos (by omega),show X8 u 48 128=176 from if_pos (by omega)]at this
 have T4:∀(b:Nat)(w:World) [yc b u 176 w],Fn 83 #[.pointer (some ⟨b,0,none⟩)] w (.bool true):=λ b w _=>by
  have:=ZaV b u 176 w
  rwa [a4]at this
 have e1:((bs x 4).toList==(bs x 4).toList)=true:=by simp
 have e2:decide (txg<1)=false:=decide_eq_false (by omega);have e3:decide (4294967295<txg)=false:=decide_eq_false (by omega);have Q:=λ w=>ZbT w y.a y.b y.c y.d y.a y.b y.c y.d
 clear hl l2 l3 l4 a0 a1 a2 a3 a4 mz bz nz lz hn hy hg hxx ht hyo;generalize n.bytes=nb at *
 have H0:=Lib.hid T0;have H1:=Lib.hid T1;have H2:=Lib.hid T2;have H3:=Lib.hid T3;have HN:=Lib.hid RN;clear T0 T1 T2 T3 RN;haveI BZ:=Bt.zero W
 go_in
 go_wp2_with fail;refine plZ (.q [0,1,2,3,4,5,6,7] .d) ?_;simp only [Zk.run,pick,gZ,gS,gA,gN]
 (repeat go_big_quiet_step (exact qZ));refine nZ ?_
 rintro w1 hw1;have B1:Bt W (λ _=>none) _ w1:=Ze hw1;clear hw1;go_wp2_with(with_reducible refine FnX.go ?_);refine ZB (W:=W) (h:=λ _=>none) (l:=[Zd w1.heap.size #[.string u,.int .i64 0] 239,_,_]) ii ?_;intro w2 C2;refine(H0.out w1.heap.size w2).1.mono ?_;rintro e v2 ⟨rfl,hw⟩;have B2:Bt W (λ _=>none) _ v2:=Ze hw;clear hw C2 B1;dsimp only;go_wp2_with fail;refine ZB (W:=W) (h:=λ _=>none) (l:=[Zd w1.heap.size #[.string u,.int .i64 8] 239,_,_]) ii ?_;intro w3 C3;refine(H1.out w1.heap.size w3).1.mono ?_;rintro e v3 ⟨rfl,hw⟩;have B3:Bt W (λ _=>none) _ v3:=Ze hw;clear hw C3 B2;dsimp only;go_wp2_with fail;refine ZB (W:=W) (h:=λ _=>none) (l:=[Zd w1.heap.size #[.string u,.int .i64 16] 239,_,_]) ii ?_;intro w4 C4;refine(H2.out w1.heap.size w4).1.mono ?_;rintro e v4 ⟨rfl,hw⟩;have B4:Bt W (λ _=>none) _ v4:=Ze hw;clear hw C4 B3;dsimp only;go_wp2_with fail;refine ZB (W:=W) (h:=λ _=>none) (l:=[_,Zd w1.heap.size #[.string u,.int .i64 48] 239,_,_]) ii ?_;intro w5 C5;refine(H3.out w1.heap.size w5).1.mono ?_;rintro e v5 ⟨rfl,hw⟩;have B5:Bt W (λ _=>none) _ v5:=Ze hw;clear hw C5 B4;dsimp only;go_wp2_with fail;refine ZB (W:=W) (h:=λ _=>none) (l:=[_,Zd w1.heap.size #[.string u,.int .i64 176] 239,_,_]) ii ?_;intro w6 C6;refine(HN.out w6).1.mono ?_;rintro e v6 ⟨rfl,hb⟩;have B6:Bt W (λ _=>none) _ v6:=Ze (Zf hb);clear hb C6 B5;dsimp only;go_wp2_with((with_reducible apply Zb);(·exact rfl);(·exact rfl);(·exact ii));refine Yn (W:=W) (h:=λ _=>none) (l:=[_,_,_,_,_]) ii ?_;intro w7 C7;haveI:=C7.gm m;refine QN (by kernel_rfl) (by kernel_rfl) ?_
 go_big_quiet_step (exact λ _=>rfl)
 (with_reducible apply VS)
 (·exact rfl);(·exact rfl);(·exact rfl);go_frame
 (repeat(first|((with_reducible apply Zc);(·exact rfl);(·rintro _ ⟨gq,rfl⟩;exact ii);go_frame)|go_big_quiet_step (exact qZ)));refine nZ ?_
 refine Z4 ?_;intro w8 B8;clear C7 this;go_wp2_with(first|((with_reducible apply Za);(·exact rfl);(·exact ii))|((with_reducible apply Zb);(·exact rfl);(·exact rfl);(·exact ii)))
 (refine bodyPost_ret (Zt (z:=14) rfl _ _ _ _ rfl inferInstance Tryz.underlying54 rfl (by kernel_rfl)) rfl ?_)
 exact⟨rfl,Bt.below0 (W:=W) (l:=[_,_,_,_,_]) ii⟩
end Go.Proofs.YtlfjdjndhcmliaaGreatDoor
