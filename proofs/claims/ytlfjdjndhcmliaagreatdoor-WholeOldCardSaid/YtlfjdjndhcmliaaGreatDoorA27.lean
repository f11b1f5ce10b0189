/- WholeOld, part 27. -/
import Derived.Test.YtlfjdjndhcmliaaGreatDoorA25
import Derived.Test.YtlfjdjndhcmliaaGreatDoorA26
import Derived.Test.YtlfjdjndhcmliaaGreatDoorA24
import Derived.Test.YtlfjdjndhcmliaaGreatDoorA01
set_option maxRecDepth 100000
set_option maxHeartbeats 4000000
set_option linter.all false
namespace Go.Proofs.YtlfjdjndhcmliaaGreatDoor
open Go.RowKit Go.Sort
theorem Zf8(L:List Nat)(i v:Nat):(Y0 L).set i [.int .i64 (v:Int)]=Y0 (L.set i v):=by simp [Y0,List.map_set]
theorem yY{L:List Nat}{i v:Nat}(h:L[i]?=some v):(Y0 L)[i]?=some [.int .i64 (v:Int)]:=by simp [Y0,h]
theorem Bt.natSet{g n cap i k:Nat}{L:List Nat}{l:List SP}{W w:World}{h:Hl}{x:Nat}(B:Bt W h l w)(e:l[k]?=some (Zw 3 1 (some ⟨g,0,none⟩) n cap (Y0 L)))(hx:L[i]?=some x)(v:Nat):Bt W h (l.set k (Zw 3 1 (some ⟨g,0,none⟩) n cap (Y0 (L.set i v)))) (w.setCell ⟨g,i,none⟩ (.int .i64 (v:Int))):=by
 have:=B.slSet e (i:=i) (j:=0) (yY hx) (by omega) (.int .i64 (v:Int));rw [Nat.mul_one,Nat.add_zero]at this;rw [<-Zf8];exact this
theorem Bt.natAt{g n cap i k:Nat}{L:List Nat}{l:List SP}{W w:World}{h:Hl}{x:Nat}(B:Bt W h l w)(e:l[k]?=some (Zw 3 1 (some ⟨g,0,none⟩) n cap (Y0 L)))(hx:L[i]?=some x):w.cell? ⟨g,i,none⟩=some (.int .i64 (x:Int))/\w.frozen? ⟨g,i,none⟩=false/\Yc g w:=by
 obtain⟨h0,p,hw⟩:=B.mem e;obtain⟨b,o,e2,h1,h2⟩:=(p.rd w).cells i _ (yY hx);cases e2;have:=h2 0 _ rfl;rw [Nat.mul_one,Nat.add_zero,Nat.zero_add]at this;exact⟨this,(p.fz w).1 i,h1⟩
section
variable(bb:Nat)(s:ZO)(secs:Int)(ms:List MD)(es:List Nat)(W:World)[D:YK bb s secs ms es W]
include D
theorem Zlp(lc bc g cap:Nat)(last:Int)(L0:List Nat)(n:Nat)(hn:1<=n/\n<=4)(hL0:L0.length=n)(hx0:∀ x∈L0,x<ms.length)(w:World)
  (B0:Bt W (λ _=>none) [Zd lc #[.int .i64 last] 3,Zd bc #[.pointer (some ⟨bb,0,none⟩)] 79,Zw 3 1 (some ⟨g,0,none⟩) n cap (Y0 L0)] w) :
  Calls Tryz.prog 306 #[.slice (some ⟨g,0,none⟩) n cap,.int .i64 0,.int .i64 n,.func (.func 299) #[] #[.pointer (some ⟨bc,0,none⟩),.pointer (some ⟨lc,0,none⟩)]] w λ e w' =>
   e=.returned (.tuple #[])/\∃ L:List Nat,L.length=n/\(∀ x∈L,x<ms.length)/\Bt W (λ _=>none) [Zd lc #[.int .i64 last] 3,Zd bc #[.pointer (some ⟨bb,0,none⟩)] 79,Zw 3 1 (some ⟨g,0,none⟩) n cap (Y0 L)] w':=by
 have HC:∀ w x,Bt W (λ _=>none) [Zd lc #[.int .i64 last] 3,Zd bc #[.pointer (some ⟨bb,0,none⟩)] 79,x] w->(∀ a b:Nat,a<ms.length->b<ms.length->Fn 299 #[.int .i64 a,.int .i64 b,.pointer (some ⟨bc,0,none⟩),.pointer (some ⟨lc,0,none⟩)] w (.int .i64 (Ze8 ms last a b))):=λ w x B a b ha hb=>by
  haveI:YK bb s secs ms es w:=by obtain⟨g,e⟩:=B.gr_of;rw [e];infer_instance
  exact⟨ZeH bb s secs ms es w bc lc a b last ha hb (YO w bc 0 #[.pointer (some ⟨bb,0,none⟩)]) (YO w lc 0 #[.int .i64 last])⟩
 go_in
 go_wp2_with fail
 go_loopw [8] (λ i wr=>∃(k:Nat)(L:List Nat),(1<=k/\k<=n)/\i=.int .i64 k/\L.length=n/\(∀ x∈L,x<ms.length)/\Bt W (λ _=>none) [Zd lc #[.int .i64 last] 3,Zd bc #[.pointer (some ⟨bb,0,none⟩)] 79,Zw 3 1 (some ⟨g,0,none⟩) n cap (Y0 L)] wr)
  (λ i _=>n-(intOf i).toNat)
 case atStart=>exact⟨1,L0,⟨Nat.le_refl _,hn.1⟩,rfl,hL0,hx0,B0⟩
 case round =>
  clear B0 hx0 hL0;obtain⟨k,L,hk,rfl,hL,hx,B⟩:=hrel
  by_cases hlt:k<n
  ·go_wp2_with fail
   go_loopw [9] (λ j wr=>∃(m:Nat)(L:List Nat),m<=k/\j=.int .i64 m/\L.length=n/\(∀ x∈L,x<ms.length)/\Bt W (λ _=>none) [Zd lc #[.int .i64 last] 3,Zd bc #[.pointer (some ⟨bb,0,none⟩)] 79,Zw 3 1 (some ⟨g,0,none⟩) n cap (Y0 L)] wr)
    (λ j _=>(intOf j).toNat)
   case atStart=>exact⟨k,L,Nat.le_refl _,rfl,hL,hx,B⟩
   case round =>
    clear B hx hL;obtain⟨m,L,hm,rfl,hL,hx,B⟩:=hrel;cases m with
    |zero =>
     go_wp2_with fail;refine plZ (.q [0,1,2,3,4,5,6,7,8,9,10,11,12,13] (.x [14] (.q [15,16] .d))) ?_;simp only [Zk.run,pick,gZ,gS,gA,gN]
     (repeat go_big_quiet_step (exact qZ));refine nZ ?_
     rintro w1 hw1;have B1:=B.cls hw1;clear hw1;go_wp2_with fail;dsimp only [Nx]
     (repeat go_big_quiet_step (exact qZ));refine nZ ?_
     rintro w2 hw2;have B2:=B1.cls hw2;clear hw2;go_wp2_with fail;exact⟨⟨k+1,L,⟨by omega,hlt⟩,by go_num,hL,hx,B2⟩,by simp [intOf];omega⟩
    |succ m =>
     obtain⟨a,ha⟩:∃ a,L[m+1]?=some a:=⟨_,List.getElem?_eq_getElem (by omega)⟩
     obtain⟨b,hb⟩:∃ b,L[m]?=some b:=⟨_,List.getElem?_eq_getElem (by omega)⟩
     have ha1:=hx a (List.mem_of_getElem? ha);have hb1:=hx b (List.mem_of_getElem? hb);obtain⟨va,_,og⟩:=B.natAt (k:=2) rfl ha;obtain⟨vb,_,_⟩:=B.natAt (k:=2) rfl hb;have Ha:=Lib.hid ha;have Hb:=Lib.hid hb;have HLn:=Lib.hid hL;clear ha hb hL;go_wp2_with fail;refine plZ (.q [0,1,2,3,4,5,6,7,8,9,10,11,12,13] (.x [14] (.q [15,16] .d))) ?_;simp only [Zk.run,pick,gZ,gS,gA,gN]
     (repeat go_big_quiet_step (exact qZ));refine nZ ?_
     rintro w1 hw1;have B1:=B.cls hw1;clear hw1;have hC1:=HC w1 _ B1 a b ha1 hb1;obtain⟨r,hr⟩:∃ r,Ze8 ms last a b=r:=⟨_,rfl⟩
     rw [hr]at hC1;clear hr;go_wp2_with(with_reducible refine Fn.go λ g=>?_);dsimp only [Nx]
     (repeat go_big_quiet_step (exact qZ));refine nZ ?_
     rintro w2 hw2;have B2:Bt W (λ _=>none) _ w2:=Ze hw2;clear hw2
     by_cases hr0:r<0
     ·go_wp2_with fail;refine plZ (.q [0,1,5,6,7,8,9,10,11,12,13,14] (.f [2,3,4] (.x [15] (.q [16] (.x [17] .d))))) ?_;simp only [Zk.run,pick,gZ,gS,gA,gN];obtain⟨va2,fa2,og2⟩:=B2.natAt (k:=2) rfl Ha.out;obtain⟨vb2,fb2,_⟩:=B2.natAt (k:=2) rfl Hb.out
      (repeat go_big_quiet_step (exact qZ));refine nZ ?_
      (repeat go_big_quiet_step (exact qZ));refine nZ ?_
      rintro w3 hw3;have B3:=B2.cls hw3;clear hw3;obtain⟨va3,fa3,og3⟩:=B3.natAt (k:=2) rfl Ha.out;have B4:=B3.natSet (k:=2) rfl Ha.out b;go_wp2_with fail;dsimp only [Nx];have hb2:(L.set (m+1) b)[m]?=some b:=by rw [List.getElem?_set_ne (by omega)];exact Hb.out
      have Hb2:=Lib.hid hb2;clear hb2
      (repeat go_big_quiet_step (exact qZ));refine nZ ?_
      rintro w4 hw4;have B5:=B4.cls hw4;clear hw4;obtain⟨va4,fa4,og4⟩:=B5.natAt (k:=2) rfl Hb2.out;have B6:=B5.natSet (k:=2) rfl Hb2.out a;go_wp2_with fail;dsimp only [Nx];rintro w6 hw6;have B7:=B6.cls hw6;clear hw6;go_wp2_with fail;refine⟨⟨m,(L.set (m+1) b).set m a,by omega,by first|rfl|go_num,by simp [HLn.out],λ x hx'=>?_,B7⟩,by simp [intOf]⟩;rcases List.mem_or_eq_of_mem_set hx' with h1|rfl
      ·rcases List.mem_or_eq_of_mem_set h1 with h2|rfl
       ·exact hx x h2
       ·exact hb1
      ·exact ha1
     ·go_wp2_with fail;exact⟨⟨k+1,L,⟨by omega,hlt⟩,by go_num,HLn.out,hx,B2⟩,by simp [intOf];omega⟩
  ·obtain rfl:n=k:=by omega
   go_wp2_with fail;go_end0;exact⟨rfl,L,hL,hx,B⟩
theorem Zlg(lc bc g cap:Nat)(last lim:Int)(L0:List Nat)(n:Nat)(hn:1<=n/\n<=4)(hL0:L0.length=n)(hx0:∀ x∈L0,x<ms.length)(w:World)
  (B0:Bt W (λ _=>none) [Zd lc #[.int .i64 last] 3,Zd bc #[.pointer (some ⟨bb,0,none⟩)] 79,Zw 3 1 (some ⟨g,0,none⟩) n cap (Y0 L0)] w) :
  Calls Tryz.prog 303 #[.slice (some ⟨g,0,none⟩) n cap,.int .i64 0,.int .i64 n,.int .i64 lim,.func (.func 299) #[] #[.pointer (some ⟨bc,0,none⟩),.pointer (some ⟨lc,0,none⟩)]] w λ e w' =>
   e=.returned (.tuple #[])/\∃ L:List Nat,L.length=n/\(∀ x∈L,x<ms.length)/\Bt W (λ _=>none) [Zd lc #[.int .i64 last] 3,Zd bc #[.pointer (some ⟨bb,0,none⟩)] 79,Zw 3 1 (some ⟨g,0,none⟩) n cap (Y0 L)] w':=by
 have IA:=Zlp bb s secs ms es W lc bc g cap last L0 n hn hL0 hx0 w B0;have h12:(n:Int)<=12:=by omega
 go_in
 go_wp2_with fail;refine wp_loop_rounds 1 ?_;rw [rounds_succ];go_wp2_with fail;refine IA.mono ?_;rintro e w2 ⟨rfl,L,hL⟩;dsimp only;go_wp2_with fail;refine bodyPost_ret (results_none rfl _ _ _) rfl ?_;exact⟨rfl,L,hL⟩
theorem ZiJ(lc bc g cap:Nat)(last:Int)(L0:List Nat)(n:Nat)(hn:1<=n/\n<=4)(hL0:L0.length=n)(hx0:∀ x∈L0,x<ms.length)(w:World)
  (B0:Bt W (λ _=>none) [Zd lc #[.int .i64 last] 3,Zd bc #[.pointer (some ⟨bb,0,none⟩)] 79,Zw 3 1 (some ⟨g,0,none⟩) n cap (Y0 L0)] w) :
  Calls Tryz.prog 298 #[.slice (some ⟨g,0,none⟩) n cap,.func (.func 299) #[] #[.pointer (some ⟨bc,0,none⟩),.pointer (some ⟨lc,0,none⟩)]] w λ e w' =>
   e=.returned (.tuple #[])/\∃ L:List Nat,L.length=n/\(∀ x∈L,x<ms.length)/\Bt W (λ _=>none) [Zd lc #[.int .i64 last] 3,Zd bc #[.pointer (some ⟨bb,0,none⟩)] 79,Zw 3 1 (some ⟨g,0,none⟩) n cap (Y0 L)] w':=by
 have HB:=Tryz.bits_Len (n:Int) w (by omega) (by omega);generalize (Lib.bitLen (n:Int).toNat:Int)=lim at HB;have PA:=λ w B=>Zlg bb s secs ms es W lc bc g cap last lim L0 n hn hL0 hx0 w B
 go_in
 go_wp2_with fail;refine HB.mono ?_;rintro e w' ⟨rfl,rfl⟩;dsimp only;go_wp2_with fail;refine(PA _ B0).mono ?_;rintro e w2 ⟨rfl,L,hL⟩;dsimp only;go_wp2_with fail;go_end0;exact⟨rfl,L,hL⟩
end
section
variable(bb:Nat)(s:ZO)(secs:Int)(ms:List MD)(es:List Nat)(W:World)[D:YK bb s secs ms es W]
include D
theorem ZhY(last:Int):Calls Tryz.prog 296 #[.pointer (some ⟨bb,0,none⟩),.int .i64 last] W λ e w'=>∃ ad cap L,e=.returned (.slice ad ms.length cap)/\L.length=ms.length/\(∀ x∈L,x<ms.length)/\Zy 1 ad ms.length cap (Y0 L) w'/\∃ g,w'=gr W g:=by
 obtain⟨ok,ho,hm,mad,mcap,ead,ecap,c0,c1,c2,c3,R,_⟩:=book_facts bb s secs ms es W;have hn:1<=ms.length/\ms.length<=4:=by rw [ok.len];exact⟨ok.good.1,ok.good.2.1⟩
 have B:=(Bt.zero W).more (Zw.nil 3 1 _);simp only [List.nil_append]at B;clear R c0 c1 c3 hm ok;obtain⟨n,hnn⟩:∃ n,ms.length=n:=⟨_,rfl⟩
 have HN:=Lib.hid hnn;rw [hnn]at hn c2 ⊢;clear hnn
 go_in
 go_wp2_with fail
 go_loopw [5,12] (λ ov i wr=>∃(k:Nat)(ad:Option Addr)(cap:Nat),k<=n/\i=.int .i64 k/\ov=.slice ad k cap/\Bt W (λ _=>none) [Zd (W.heap.size+1) #[.int .i64 last] 3,Zd W.heap.size #[.pointer (some ⟨bb,0,none⟩)] 79,Zw 3 1 ad k cap (Y0 (List.range k))] wr)
  (λ _ i _=>n-(intOf i).toNat)
 case atStart=>exact⟨0,none,0,Nat.zero_le _,rfl,rfl,ii⟩
 case round =>
  clear B;obtain⟨k,ad,cap,hk,rfl,rfl,B⟩:=hrel
  by_cases hlt:k<n
  ·go_wp2_with(at_builtin;(with_reducible apply ZI);(·exact rfl);(·exact rfl);(·exact ii);(·exact ii);(·exact ii);(·exact rfl);(·decide);(·omega);intro gA capA wA bA;(try dsimp only at bA));exact⟨⟨k+1,some ⟨gA,0,none⟩,capA,hlt,by go_num,rfl,by rw [show Y0 (List.range (k+1))=Y0 (List.range k)++[[.int .i64 (k:Int)]] by simp [Y0,List.range_succ]];exact bA.drop⟩,by simp [intOf];omega⟩
  ·obtain rfl:n=k:=by omega
   obtain⟨g,rfl,hfz⟩:∃ g,ad=some ⟨g,0,none⟩/\g<wr.heap.size:=by
    obtain⟨h0,p,hw⟩:=B.mem (i:=2) rfl;rcases p.2.2 with ⟨_,h1,_⟩|⟨g,e,_,cur,r1,_⟩
    ·omega
    ·exact⟨g,e,Has.lt hw r1⟩
   have SA:=λ w B=>ZiJ bb s secs ms es W (W.heap.size+1) W.heap.size g cap last (List.range n) n hn (by simp) (λ x hx=>by rw [HN.out];exact List.mem_range.1 hx) w B
   go_wp2_with fail;refine(SA _ B).mono ?_;rintro e w2 ⟨rfl,L,hL,hx,B2⟩;dsimp only;have HLn:=Lib.hid hL;clear hL;go_wp2_with fail;go_ret;refine⟨_,cap,L,rfl,HLn.out,λ x h=>by have:=hx x h;rw [HN.out]at this;exact this,?_,B2.gr_of⟩;obtain⟨h0,p,hw⟩:=B2.mem (i:=2) rfl;exact p.rd _
end
theorem Tq.at_{f:FuncId}{args:Array Value}{p:SP}{R:Value->SP->Prop}(t:Tq f args p R){l:List SP}{i:Nat}(e:l[i]?=some p):Tq f args (star l) λ v q=>∃ q0,R v q0/\q=star (l.set i q0):=λ W h hw hs=>by
 obtain⟨h0,a,b,c⟩:=hs.focus e;refine(t W h0 (hw.sub b) a).mono λ e' w' ⟨v,q,ev,r,T⟩=>⟨v,_,ev,⟨q,r,rfl⟩,?_⟩
 exact(T.frame hw b).mono λ h' ⟨h1,q1,q2,q3⟩=>c q h1 h' q1 q2 q3
theorem Za8(ms:List MD)(i:Nat)(m:MD):(XJ ms).set i (KC m.1 m.2.1 m.2.2)=XJ (ms.set i m):=by simp [XJ,List.map_set]
section
variable{W w:World}{h:Hl}{l:List SP}{bb:Nat}{s:ZO}{secs:Int}{ms:List MD}{es:List Nat}
theorem X5(B:Bt W h (ZV bb s secs ms es::l) w):zS s secs ms es/\∃ mad mcap ead ecap,Bt W h (Zd bb #[.slice s.ad s.len s.cap,.int .i64 secs,.slice mad ms.length mcap,.slice ead es.length ecap] 136::Zw 138 1 mad ms.length mcap (QC ms)::Zw 3 1 ead es.length ecap (Y0 es)::star (XJ ms)::l) w:=by
 obtain⟨ok,B1⟩:=B.pure;obtain⟨mad,B1⟩:=B1.ex;obtain⟨mcap,B1⟩:=B1.ex;obtain⟨ead,B1⟩:=B1.ex;obtain⟨ecap,B1⟩:=B1.ex;exact⟨ok,mad,mcap,ead,ecap,B1.flat⟩
theorem J0{mad:Option Addr}{mcap:Nat}{ead:Option Addr}{ecap:Nat}(ok:zS s secs ms es)(B:Bt W h (Zd bb #[.slice s.ad s.len s.cap,.int .i64 secs,.slice mad ms.length mcap,.slice ead es.length ecap] 136::Zw 138 1 mad ms.length mcap (QC ms)::Zw 3 1 ead es.length ecap (Y0 es)::star (XJ ms)::l) w):Bt W h (ZV bb s secs ms es::l) w :=
 (B.app [_,_,_,_]).head λ _ s=>⟨ok,mad,mcap,ead,ecap,s⟩
end
structure ze(s:ZO)(secs:Int)(ms ms':List MD)(size i at_ n:Nat):Prop where
 lt:i<s.len
 hn:(n:Int)=Xu s i size
 le:((at_+n:Nat):Int)<=Q8 s secs i
 free:∀ u,at_<=u->u<at_+n->¬YX ms i u
 used:∀ g u,YX ms' g u↔YX ms g u\/(g=i/\at_<=u/\u<at_+n)
theorem ZjN{s:ZO}{secs:Int}{ms:List MD}{es:List Nat}{size i at_ n e:Nat}{m:MD}(ok:zS s secs ms es)(hm:ms[i]?=some m)(so:Y3 m.2.1 m.2.2)(hn:(n:Int)=Xu s i size)(h1:1<=n)(hf:kJ m.2.2 m.2.1 n e=some at_)(bb:Nat) :
  ze s secs ms (XD ms i at_ n) size i at_ n/\zS s secs (XD ms i at_ n) (es.set i (at_+n)):=by
 obtain⟨f1,f2⟩:=kC so hf;have hi:i<ms.length:=(List.getElem?_eq_some_iff.1 hm).1;have hu:=UU hm so h1 f1 (Vb f2);refine⟨⟨by rw [<-ok.len];exact hi,hn,by have:=ok.size i m hm;omega,λ u u1 u2=>?_,hu⟩,ok.good,by rw [zB];exact ok.len,by rw [List.length_set];exact ok.elen,λ g m' hg=>?_,λ g e' m' he hg=>?_⟩
 ·rintro⟨m',hm',hr⟩;rw [hm]at hm';cases hm';exact ZcF so hf u u1 u2 hr
 ·unfold XD at hg;rw [hm]at hg;dsimp only at hg
  by_cases e:i=g
  ·subst e;rw [List.getElem?_set_self hi]at hg;cases hg;exact ok.size i m hm
  ·rw [List.getElem?_set_ne e]at hg;exact ok.size g m' hg
 ·unfold XD at hg;rw [hm]at hg;dsimp only at hg
  by_cases e:i=g
  ·subst e;rw [List.getElem?_set_self hi]at hg;cases hg;have hi2:i<es.length:=by rw [ok.elen,<- ok.len];exact hi
   rw [List.getElem?_set_self hi2]at he;cases he;exact f1
  ·rw [List.getElem?_set_ne e]at hg he;exact ok.ends g e' m' he hg
theorem QZ{s:ZO}{secs:Int}(h:ZT s secs){g z:Nat}(hg:g<s.len)(hz:1<=z/\z<=4):1<=Xu s g z:=by
 obtain⟨w1,w2,w3⟩:=Yk h hg;rw [ql hg hz];unfold Xt;split
 ·omega
 ·have h1:0<=((z:Int)+s.y g-2)/(s.y g-1):=Int.ediv_nonneg (by omega) (by omega);have h2:=Int.emod_nonneg ((z:Int)+((z:Int)+s.y g-2)/(s.y g-1)) (show (2:Int)≠0 by decide);omega
theorem ze.may{s:ZO}{secs:Int}{ms ms':List MD}{size i at_ n:Nat}(t:ze s secs ms ms' size i at_ n)(h:1<=n):XG s secs i at_ size=true:=by
 have h1:=t.hn;have h2:=t.le;simp only [XG,Bool.and_eq_true,decide_eq_true_eq];omega
theorem Zc1{b o:Nat}{v:Value}{W w:World}[Yc b W](h:W.cell? ⟨b,o,none⟩=some v)(c:YL W w):w.cell? ⟨b,o,none⟩=some v:=by
 obtain⟨g,rfl⟩:=c;exact(Z7 ..).trans h
theorem Zf3{b:Nat}{W w:World}(h:Yc b W)(c:YL W w):Yc b w:=by
 obtain⟨g,rfl⟩:=c;infer_instance
theorem Bt.map_in{W w:World}{h:Hl}{l:List SP}{k i:Nat}{ms:List MD}{m:MD}(B:Bt W h l w)(e:l[k]?=some (star (XJ ms)))(hm:ms[i]?=some m):YD m.1 m.2.1 m.2.2 w:=by
 obtain⟨h0,p,hw⟩:=B.mem e;obtain⟨h5,p5,s5⟩:=star.get p (J7 hm);exact⟨⟨h5,p5,hw.sub s5⟩⟩
theorem Bt.gm_in{W w:World}{h:Hl}{l:List SP}{k:Nat}{s:ZO}(B:Bt W h l w)(e:l[k]?=some (X9 s)):GM s w:=by
 obtain⟨h0,p,hw⟩:=B.mem e;exact p.gm w
theorem Bt.rd_in{W w:World}{h:Hl}{l:List SP}{k:Nat}{t:TypeId}{z:Nat}{ad:Option Addr}{n cap:Nat}{L:List (List Value)}(B:Bt W h l w)(e:l[k]?=some (Zw t z ad n cap L)):Zy z ad n cap L w:=by
 obtain⟨h0,p,hw⟩:=B.mem e;exact p.rd w
theorem Zhd(bb:Nat)(s:ZO)(secs:Int)(ms:List MD)(es:List Nat)(size:Nat)(hz:1<=size/\size<=4)(last:Int) :
  Tq 295 #[.pointer (some ⟨bb,0,none⟩),.int .i64 size,.int .i64 last] (star [X9 s,ZV bb s secs ms es]) λ v q =>
   (v=.tuple #[.agg #[.int .i64 0,.int .i64 0],.bool false]/\q=star [X9 s,ZV bb s secs ms es]) \/
   ∃(i at_ n:Nat)(ms':List MD)(es':List Nat),v=.tuple #[.agg #[.int .i64 i,.int .i64 at_],.bool true]/\ze s secs ms ms' size i at_ n/\q=star [X9 s,ZV bb s secs ms' es']:=by
 refine Tq.of λ W h B0=>?_
 have B1:=B0.flat;simp only [List.append_nil]at B1;haveI:YK bb s secs ms es W:=⟨ii⟩
 have OA:=λ(w:World)(_:YK bb s secs ms es w)=>ZhY bb s secs ms es w last
 have B2:=X5 (B1.perm (List.Perm.swap ..));obtain⟨ok,mad,mcap,ead,ecap,B⟩:=B2;clear B0 B1;obtain⟨_,_,hm,_⟩:=book_facts bb s secs ms es W;haveI:Ky s secs:=⟨ok.good⟩
 have hlen:=ok.len;have hel:es.length=ms.length:=by rw [ok.elen,ok.len]
 have h4:ms.length<=4:=by rw [ok.len];exact ok.good.2.1
 clear hm
 go_in
 go_wp2_with fail;refine(OA _ ii).mono ?_;rintro e V1 ⟨oad,ocap,L,rfl,hL,hx,RO,hg⟩;have B1:=Ze hg;clear B OA hg;dsimp only;have HLn:=Lib.hid hL;have HS:=Lib.hid hlen;have HE:=Lib.hid hel;clear hL hlen hel;go_wp2_with fail
 go_loopw [17] (λ i wr=>∃ k:Nat,k<=ms.length/\i=.int .i64 k/\∃ g,wr=gr V1 g) (λ i _=>ms.length-(intOf i).toNat)
 case atStart=>exact⟨0,Nat.zero_le _,rfl,Y1 V1⟩
 case round =>
  obtain⟨k,hk,rfl,hg2⟩:=hrel;have B2:=B1.cls hg2;replace RO:=qU RO hg2
  by_cases hlt:k<ms.length
  ·obtain⟨x,hxk⟩:∃ x,L[k]?=some x:=⟨_,List.getElem?_eq_getElem (by rw [HLn.out];exact hlt)⟩
   have hxm:=hx x (List.mem_of_getElem? hxk);obtain⟨m,hm⟩:∃ m,ms[x]?=some m:=⟨_,List.getElem?_eq_getElem hxm⟩
   obtain⟨e,he⟩:∃ e,es[x]?=some e:=⟨_,List.getElem?_eq_getElem (by rw [HE.out];exact hxm)⟩
   haveI:=B2.map_in (k:=4) rfl hm;haveI:=B2.gm_in (k:=5) rfl;obtain⟨n,hn⟩:∃ n:Nat,Xu s x size=n:=Int.eq_ofNat_of_zero_le (by have:=QZ ok.good (g:=x) (by rw [<-HS.out];exact hxm) hz;omega)
   have hn1:1<=n/\n<=65536:=by
    have h1:=QZ ok.good (g:=x) (by rw [<-HS.out];exact hxm) hz;have h2:=zK s secs x size;omega
   have hem:=ok.ends x e m he hm;have hxe:x<es.length:=by rw [HE.out];exact hxm
   have HT:∀ w,[GM s w]->Fn 186 #[.agg #[.slice s.ad s.len s.cap,.int .i64 secs],.int .i64 x,.int .i64 size] w (.int .i64 n):=λ w _=>by rw [<-hn];infer_instance
   have HF:∀ w,[YD m.1 m.2.1 m.2.2 w]->_:=λ w (_:YD m.1 m.2.1 m.2.2 w)=>ZhM m.1 m.2.1 m.2.2 w n e hn1 hem
   obtain⟨ob,oo,e1,hob,hoc⟩:=RO.cells k _ (yY hxk);cases e1;obtain⟨mb,mo,em,hmb,hmc⟩:=(B2.rd_in (k:=2) rfl).cells x [.pointer (some ⟨m.1,0,none⟩)] (by simp [QC,hm]);cases em;obtain⟨eb,eo,ee,heb,hec⟩:=(B2.rd_in (k:=3) rfl).cells x _ (yY he);cases ee
   obtain rfl:eo=0:=by
    obtain⟨h0,p,hw⟩:=B2.mem (i:=3) rfl;rcases p.2.2 with ⟨h1,_⟩|⟨g,e1,_⟩
    ·cases h1
    ·cases e1;rfl
   have o0:=hoc 0 _ rfl;have m0:=hmc 0 _ rfl;have e0:=hec 0 _ rfl;rw [Nat.add_zero,Nat.mul_one]at o0 m0 e0;rw [Nat.zero_add]at e0;have Hm:=Lib.hid hm;have He:=Lib.hid he;have Hn:=Lib.hid hn;clear hxk hm he hn hoc hmc hec RO;cases hfi:kJ m.2.2 m.2.1 n e with
   |none =>
    rw [hfi]at HF;dsimp only at HF;clear hfi;go_wp2_with(with_reducible refine Fn.go λ g=>?_);refine plZ (.q [0,1,2,3,4,5,6,7,8,9,10,11,12,13,14,15,16,17,18,19,20] .d) ?_;simp only [Zk.run,pick,gZ,gS,gA,gN]
    (repeat go_big_quiet_step (exact qZ));refine nZ ?_
    rintro w3 hw3;have hg3:∃ g,w3=gr V1 g:=by obtain⟨g,rfl⟩:=hg2;obtain⟨g',rfl⟩:=hw3;exact⟨_,by first|rw [ZW,ZW]|rw [ZW]⟩
    clear hw3;go_wp2_with fail;exact⟨⟨k+1,hlt,by go_num,hg3⟩,by simp [intOf];omega⟩
   |some at_ =>
    rw [hfi]at HF;dsimp only at HF;have Hf:=Lib.hid hfi;clear hfi;go_wp2_with(with_reducible refine Fn.go λ g=>?_);refine plZ (.q [0,1,2,3,4,5,6,7,8,9,10,11,12,13,14,15,16,17,18,19,20] .d) ?_;simp only [Zk.run,pick,gZ,gS,gA,gN]
    (repeat go_big_quiet_step (exact qZ));refine nZ ?_
    rintro w3 hw3;have B3:Bt W h _ w3:=Ze hw3;replace m0:=Zc1 m0 hw3;replace e0:=Zc1 e0 hw3;replace hmb:=Zf3 hmb hw3;replace heb:=Zf3 heb hw3;clear hw3 o0 hob;have so:Y3 m.2.1 m.2.2:=(YF m.1 m.2.1 m.2.2 wr).1;have F:=kC so Hf.out;have ST:=(Vj m.1 m.2.1 m.2.2 at_ n hn1.1 F.1 (Vb F.2)).at_ (J7 Hm.out);have TK:=ZjN ok Hm.out so Hn.out.symm hn1.1 Hf.out bb;have hbd:at_+n<=65536:=by have:=(YF m.1 m.2.1 m.2.2 wr).2.1.2;have:=F.1;omega
    clear F;go_wp2_with fail;refine(Bt.call ST).mono ?_;rintro e4 w4 ⟨v,q,rfl,⟨q0,⟨rfl,rfl⟩,rfl⟩,B4⟩
    have hset:(XJ ms).set x (KC m.1 m.2.1 (QK (yP m.2.2 at_ n)))=XJ (XD ms x at_ n):=by
     unfold XD;rw [Hm.out];exact Za8 ms x (m.1,m.2.1,QK (yP m.2.2 at_ n))
    dsimp only at B4 ⊢;rw [hset]at B4;clear hset ST;obtain⟨va4,fa4,og4⟩:=B4.natAt (k:=3) rfl He.out;have B6:Bt W h (_::_::_::_::_::_::[]) _:=B4.natSet (k:=3) rfl He.out (at_+n);rw [Int.natCast_add]at B6;have HTK:=Lib.hid TK;clear TK;go_wp2_with fail
    (try simp only [Exit.inBlock,Exit.then])
    (refine bodyPost_ret (Zt (z:=2) rfl _ _ _ _ rfl inferInstance Tryz.underlying45 rfl (by kernel_rfl)) rfl ?_)
    (first|apply Zv|apply Zu)
    have B9:Bt W h (Zd W.heap.size _ _::_) (((w4.setCell ⟨eb,x,none⟩ (.int .i64 ((at_:Int)+n))).setCell ⟨W.heap.size,0,none⟩ (.int .i64 x)).setCell ⟨W.heap.size,1,none⟩ (.int .i64 at_)):=ii;have B10:=B9.drop;have e1:ms.length=(XD ms x at_ n).length:=(zB ..).symm;have e2:es.length=(es.set x (at_+n)).length:=by simp
    have e3:QC ms=QC (XD ms x at_ n):=by
     unfold XD QC;rw [Hm.out];refine List.ext_getElem? λ i=>?_
     simp only [List.getElem?_map]
     by_cases hi:x=i
     ·subst hi;rw [List.getElem?_set_self hxm,Hm.out];rfl
     ·rw [List.getElem?_set_ne hi]
    rw [e1,e2,e3]at B10;exact⟨.inr ⟨x,at_,n,XD ms x at_ n,es.set x (at_+n),rfl,HTK.out.1,rfl⟩,(((J0 HTK.out.2 B10).perm (List.Perm.swap ..)).app [_,_]).fin_at 0 rfl⟩
  ·obtain rfl:ms.length=k:=by omega
   go_wp2_with fail
   (refine bodyPost_ret (Zt (z:=2) rfl _ _ _ _ rfl inferInstance Tryz.underlying45 rfl (by kernel_rfl)) rfl ?_)
   (first|apply Zv|apply Zu)
   have B9:Bt W h (Zd W.heap.size _ _::_) ((wr.setCell ⟨W.heap.size,0,none⟩ (.int .i64 0)).setCell ⟨W.heap.size,1,none⟩ (.int .i64 0)):=ii;exact⟨.inl ⟨rfl,rfl⟩,(((J0 ok B9.drop).perm (List.Perm.swap ..)).app [_,_]).fin_at 0 rfl⟩
theorem JC{fn:Func}{p q u:Tmp}(h:fn.results=#[.cell p 45,.cell q 45,.tmp u])(tmps:Array Value)(w:World)(a b:Nat)(x y x' y':Value)
  (hp:tmps.getD p undef=.pointer (some ⟨a,0,none⟩)) (hq:tmps.getD q undef=.pointer (some ⟨b,0,none⟩)) (ha:Zh w a #[x,y]) (hb:Zh w b #[x',y']) :
  (results fn tmps).run Tryz.prog w=.ok (.tuple #[.agg #[x,y],.agg #[x',y'],tmps.getD u undef]) w:=by
 have hp':tmps[p]?.getD undef=.pointer (some ⟨a,0,none⟩):=by simpa using hp
 have hq':tmps[q]?.getD undef=.pointer (some ⟨b,0,none⟩):=by simpa using hq
 obtain⟨t,e⟩:=ha.get;obtain⟨t',e'⟩:=hb.get;have hla:(loadVar 45 ⟨a,0,none⟩).run Tryz.prog w=.ok (.agg #[x,y]) w:=run_loadVar_row (P:=Tryz.prog) w a _ 45 #[x,y] (0,0) _ e Tryz.underlying45 rfl (by kernel_rfl);have hlb:(loadVar 45 ⟨b,0,none⟩).run Tryz.prog w=.ok (.agg #[x',y']) w:=run_loadVar_row (P:=Tryz.prog) w b _ 45 #[x',y'] (0,0) _ e' Tryz.underlying45 rfl (by kernel_rfl);simp [results,h,hp',hq',asAddr,hla,hlb,Sem.run_bind,Result.andThen]
theorem Bt.book_end{W w:World}{h:Hl}{bb i:Nat}{s:ZO}{secs:Int}{ms:List MD}{es:List Nat}{mad:Option Addr}{mcap:Nat}{ead:Option Addr}{ecap:Nat}{x:SP}{rest:List SP}(hg:rest[i]?=some (X9 s))(ok:zS s secs ms es)
  (B:Bt W h (x::Zw 138 1 mad ms.length mcap (QC ms)::Zw 3 1 ead es.length ecap (Y0 es)::star (XJ ms)::Zd bb #[.slice s.ad s.len s.cap,.int .i64 secs,.slice mad ms.length mcap,.slice ead es.length ecap] 136::rest) w):Zg W h (star [X9 s,ZV bb s secs ms es]) w:=by
 have B1:Bt W h (_::_::_::_::_::rest) w:=B.front (i:=4) rfl;have B2:=J0 ok B1.drop1;have B3:Bt W h (_::_::_) w:=B2.front (i:=i+1) hg;exact(B3.app [_,_]).fin_at 0 rfl
theorem Bt.last2{W w:World}{h:Hl}{l bs:List SP}{p q:SP}[B:Bt W h l w][m:Zgk l p q bs]:Zg W h (star [p,q]) w:=(Bt.rot bs _ (m.e▸B)).fin_at 0 rfl
def ZaH(i a:Nat):Value:=.agg #[.int .i64 i,.int .i64 a]
def Zpt(bb:Nat)(s:ZO)(secs:Int)(ms:List MD)(size:Nat)(two:Bool)(v:Value)(q:SP):Prop :=
 (v=.tuple #[.agg #[.int .i64 0,.int .i64 0],.agg #[.int .i64 0,.int .i64 0],.int .i64 8]/\∃ ms' es',Alike ms ms'/\q=star [X9 s,ZV bb s secs ms' es']) \/
 (two=false/\∃ i a n ms' es',v=.tuple #[ZaH i a,.agg #[.int .i64 0,.int .i64 0],.int .i64 0]/\ze s secs ms ms' size i a n/\q=star [X9 s,ZV bb s secs ms' es']) \/
 (two=true/\∃ i a n j b k ms1 ms' es',v=.tuple #[ZaH i a,ZaH j b,.int .i64 0]/\ze s secs ms ms1 size i a n/\ze s secs ms1 ms' size j b k/\q=star [X9 s,ZV bb s secs ms' es'])
theorem kq(bb:Nat)(s:ZO)(secs:Int)(ms:List MD)(es:List Nat)(size:Nat)(hz:1<=size/\size<=4)(two:Bool) :
  Tq 293 #[.pointer (some ⟨bb,0,none⟩),.int .i64 size,.bool two] (star [X9 s,ZV bb s secs ms es]) (Zpt bb s secs ms size two):=by
 refine Tq.of λ W h B0=>?_
 have B:=B0.flat;simp only [List.append_nil]at B;clear B0;have CA:=λ(w:World)(_:YK bb s secs ms es w)=>qc bb s secs ms es w
 have hz1:¬ (size:Int)<1:=by omega
 have hz4:¬ (4:Int)<size:=by omega
 haveI:YK bb s secs ms es W:=⟨ii⟩
 go_in
 go_wp2_with fail;refine(CA _ ii).mono ?_;rintro e w1 ⟨wb,wms,rfl,hal,hg1,hn1⟩;have B1:Bt W h (_::_) w1:=Bt.join (w:=(W.alloc (.cells #[.int .i64 0,.int .i64 0] 45)).alloc (.cells #[.int .i64 0,.int .i64 0] 45)) ii hg1 hn1;clear B CA hg1 hn1;dsimp only;go_wp2_with fail;refine(Bt.call2 (Zhd bb s secs ms es size hz (-1))).mono ?_;rintro e w2 ⟨v,q,rfl,hq,B2⟩;have Hal:=Lib.hid hal;clear hal;rcases hq with ⟨rfl,rfl⟩|⟨i,a,n,ms1,es1,rfl,T1,rfl⟩
 ·have B3:=B2.unrot;simp only [List.cons_append,List.nil_append]at B3;clear B1 B2;have F0:Bt W h (_::_::_::_::_::[]) w2:=B3.front (i:=4) rfl;obtain⟨ok1,mad,mcap,ead,ecap,F1⟩:=X5 F0;have F2:Bt W h (_::_::_::_::_::_::_::_::[]) w2:=F1.front (i:=4) rfl;obtain⟨ok2,mad2,mcap2,ead2,ecap2,F3⟩:=X5 F2;clear B3 F0 F1 F2;dsimp only;go_wp2_with fail
  (try simp only [Exit.inBlock,Exit.then])
  refine bodyPost_ret (JC rfl _ _ W.heap.size (W.heap.size+1) _ _ _ _ rfl rfl ii ii) rfl ?_
  (first|apply Zv|apply Zu)
  exact⟨.inl ⟨rfl,wms,es,Hal.out,rfl⟩,Bt.book_end (i:=5) rfl ok2 (Bt.drop (Bt.drop ii))⟩
 ·have B3:=B2.unrot;simp only [List.cons_append,List.nil_append]at B3;clear B1 B2;dsimp only;cases two
  ·go_wp2_with fail
   go_region
   all_goals go_wp2_with fail
   all_goals refine bodyPost_ret (JC rfl _ _ W.heap.size (W.heap.size+1) _ _ _ _ rfl rfl ii ii) rfl ?_
   all_goals(first|apply Zv|apply Zu)
   all_goals exact⟨.inr (.inl ⟨rfl,i,a,n,ms1,es1,rfl,T1,rfl⟩),Bt.last2⟩
  ·go_wp2_with fail;refine(Bt.call2 (Zhd bb s secs ms1 es1 size hz i)).mono ?_;rintro e w3 ⟨v,q,rfl,hq,B4⟩;rcases hq with ⟨rfl,rfl⟩|⟨j,b,k,ms2,es2,rfl,T2,rfl⟩
   ·have B5:=B4.unrot;simp only [List.cons_append,List.nil_append]at B5;clear B3 B4;have F0:Bt W h (_::_::_::_::_::_::_::[]) w3:=B5.front (i:=6) rfl;obtain⟨ok1,mad,mcap,ead,ecap,F1⟩:=X5 F0;have F2:Bt W h (_::_::_::_::_::_::_::_::_::_::[]) w3:=F1.front (i:=6) rfl;obtain⟨ok2,mad2,mcap2,ead2,ecap2,F3⟩:=X5 F2;clear B5 F0 F1 F2;dsimp only;go_wp2_with fail
    (try simp only [Exit.inBlock,Exit.then])
    refine bodyPost_ret (JC rfl _ _ W.heap.size (W.heap.size+1) _ _ _ _ rfl rfl ii ii) rfl ?_
    (first|apply Zv|apply Zu)
    exact⟨.inl ⟨rfl,wms,es,Hal.out,rfl⟩,Bt.book_end (i:=7) rfl ok2 ii⟩
   ·have B5:=B4.unrot;simp only [List.cons_append,List.nil_append]at B5;clear B3 B4;dsimp only;go_wp2_with fail
    go_region
    all_goals go_wp2_with fail
    all_goals refine bodyPost_ret (JC rfl _ _ W.heap.size (W.heap.size+1) _ _ _ _ rfl rfl ii ii) rfl ?_
    all_goals(first|apply Zv|apply Zu)
    all_goals exact⟨.inr (.inr ⟨rfl,i,a,n,j,b,k,ms1,ms2,es2,rfl,T1,T2,rfl⟩),Bt.last2⟩
abbrev Qs(V:VD)(bb:Nat)(txg keep:Nat)(meta_:Bool)(dn:Value):Array Value:=#[.slice V.s.ad V.s.len V.s.cap,.int .i64 V.secs,.slice (some ⟨V.lb,0,none⟩) V.ds.length V.lc,.slice (some ⟨V.ab,0,none⟩) V.ds.length V.ac,.pointer (some ⟨bb,0,none⟩),.int .i64 txg,.int .i64 keep,.bool meta_,dn]
abbrev Jk(d:Nat):Value:=.pointer (some ⟨d,0,none⟩)
def DnL(d fx:Nat)(bad:Option Addr)(bn bcap:Nat)(born:List (List Value)):List SP:=[Zd d #[.int .i64 fx,.slice bad bn bcap] 268,Zw 50 12 bad bn bcap born]
def Ul(dn:Value)(c:Nat):SP:=λ h=>(dn=.pointer none/\c<=1000000000)\/∃ d fx bad bn bcap born,dn=Jk d/\(fx=0/\bn+c<=1000000000)/\star (DnL d fx bad bn bcap born) h
section
variable(V:VD)(st bb txg keep:Nat)(meta_:Bool)
theorem Jw(d:Nat)(W:World)[k:Zh W st (Qs V bb txg keep meta_ (Jk d))]:Fn 116 #[.pointer (some ⟨st,0,none⟩)] W (Jk d):=by
 refine⟨?_⟩;haveI:Yc st W:=k.old
 go_in
 go_wp2_with fail;go_ret;exact ZM.mk rfl grown
theorem JS(c:Nat)(hc:c<=1000000000):Tq 116 #[.pointer (some ⟨st,0,none⟩)] (Zd st (Qs V bb txg keep meta_ (.pointer none)) 169) λ v q=>∃ d,v=Jk d/\q=star [Zd st (Qs V bb txg keep meta_ (Jk d)) 169,Zd d #[.int .i64 (0:Nat),.slice none 0 0] 268]:=by
 refine Tq.of λ W h B=>?_
 go_in
 go_wp2_with fail;go_ret
 (first|apply Zv|apply Zu)
 have B9:Bt W h [_,_] _:=(ii:Bt W h _ ((W.setCell ⟨st,8,none⟩ (.pointer (some ⟨W.heap.size,0,none⟩))).alloc (.cells #[.int .i64 0,.slice none 0 0] 268)))
 exact⟨⟨W.heap.size,rfl,rfl⟩,((B9.perm (List.Perm.swap ..)).app [_,_]).fin_at 0 rfl⟩
theorem Bt.or{W w:World}{h:Hl}{l:List SP}{p q:SP}(B:Bt W h ((λ h=>p h\/q h)::l) w):Bt W h (p::l) w\/Bt W h (q::l) w:=by
 obtain⟨m,h1,i,x,h2,h3,a,b,c,d,e⟩:=B.t;rcases a with a|a
 ·exact .inl ⟨m,h1,i,x,h2,h3,a,b,c,d,e⟩
 ·exact .inr ⟨m,h1,i,x,h2,h3,a,b,c,d,e⟩
theorem Bt.dn{W w:World}{h:Hl}{l:List SP}{dn:Value}{c:Nat}(B:Bt W h (Ul dn c::l) w):(dn=.pointer none/\c<=1000000000/\Bt W h l w)\/∃ d fx bad bn bcap born,dn=Jk d/\(fx=0/\bn+c<=1000000000)/\Bt W h (DnL d fx bad bn bcap born++l) w:=by
 rcases B.or with B1|B1
 ·obtain⟨m,h1,i,x,h2,h3,a,b,c,d,e⟩:=B1.t;exact .inl ⟨a.1,a.2,B1.drop⟩
 ·obtain⟨d,B2⟩:=B1.ex;obtain⟨fx,B2⟩:=B2.ex;obtain⟨bad,B2⟩:=B2.ex;obtain⟨bn,B2⟩:=B2.ex;obtain⟨bcap,B2⟩:=B2.ex;obtain⟨born,B2⟩:=B2.ex;obtain⟨e1,B2⟩:=B2.pure;obtain⟨e2,B2⟩:=B2.pure;exact .inr ⟨d,fx,bad,bn,bcap,born,e1,e2,B2.flat⟩
theorem ZiY(dn:Value)(c:Nat):Tq 116 #[.pointer (some ⟨st,0,none⟩)] (star [Zd st (Qs V bb txg keep meta_ dn) 169,Ul dn c]) λ v q=>∃ d fx bad bn bcap born,v=Jk d/\(fx=0/\bn+c<=1000000000)/\q=star (Zd st (Qs V bb txg keep meta_ (Jk d)) 169::DnL d fx bad bn bcap born):=by
 refine Tq.of λ W h B0=>?_
 have B1:=B0.flat;simp only [List.append_nil]at B1;rcases(B1.perm (List.Perm.swap ..)).dn with ⟨rfl,hc,B2⟩|⟨d,fx,bad,bn,bcap,born,rfl,hb,B2⟩
 ·haveI:=B2;refine(Bt.call (JS V st bb txg keep meta_ c hc)).mono ?_;rintro e w1 ⟨v,q,rfl,⟨d,rfl,rfl⟩,B3⟩;have B4:=B3.flat.more (Zw.nil 50 12 _);exact⟨_,_,rfl,⟨d,0,none,0,0,[],rfl,⟨rfl,by omega⟩,rfl⟩,(B4.app [_,_,_]).fin_at 0 rfl⟩
 ·have B3:Bt W h [Zd st _ _,_,_] W:=B2.front (i:=2) rfl;refine(Jw V st bb txg keep meta_ d W).1.mono ?_;rintro e w1 ⟨rfl,hb1⟩;have B4:=B3.cls (Zf hb1);exact⟨_,_,rfl,⟨d,fx,bad,bn,bcap,born,rfl,hb,rfl⟩,(B4.app [_,_,_]).fin_at 0 rfl⟩
end
end Go.Proofs.YtlfjdjndhcmliaaGreatDoor
