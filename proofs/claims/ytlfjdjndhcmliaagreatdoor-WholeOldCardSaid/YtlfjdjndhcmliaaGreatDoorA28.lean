/- WholeOld, part 28. -/
import Derived.Test.YtlfjdjndhcmliaaGreatDoorA27
import Derived.Test.YtlfjdjndhcmliaaGreatDoorA25
import Derived.Test.YtlfjdjndhcmliaaGreatDoorA12
set_option maxRecDepth 100000
set_option maxHeartbeats 4000000
set_option linter.all false
namespace Go.Proofs.YtlfjdjndhcmliaaGreatDoor
open Go.RowKit Go.Sort
structure X6(a b:ZO):Prop where
 len:a.len=b.len
 x:a.x=b.x
 y:a.y=b.y
theorem X6.tak{a b:ZO}(k:X6 a b)(g z:Int):Xu a g z=Xu b g z:=by unfold Xu;rw [k.len,k.x,k.y]
theorem X6.sec{a b:ZO}(k:X6 a b)(secs g:Int):Q8 a secs g=Q8 b secs g:=by unfold Q8;rw [k.len,k.x,k.y]
theorem X6.may{a b:ZO}(k:X6 a b)(secs g at_ z:Int):XG a secs g at_ z=XG b secs g at_ z:=by unfold XG;rw [k.tak,k.sec]
def VD.us(V:VD)(ms:List MD)(g u:Nat):Prop:=V.ro=true\/YX ms g u
structure Qu(V:VD)(sb:ZO)(K:KS)(c N:Nat)(F:Nat->Nat->ByteArray)(ms:List MD):Prop where
 same:X6 sb V.s
 kept:Xo V.s V.secs F (V.us ms) K
 bd:N+64*c<=1000000000000
 ring:∀ d k,k<16->F d k=V.rg d k
 ro:V.ro=true->c=0
def StL(V:VD)(st bb:Nat)(sb:ZO)(txg keep:Nat)(meta_:Bool)(dn:Value)(c N:Nat)(F:Nat->Nat->ByteArray)(ms:List MD)(es:List Nat):List SP :=
 [Zd st (Qs V bb txg keep meta_ dn) 169,Ul dn c,ZE V N F,X9 sb,ZV bb sb V.secs ms es]
def Qe(V:VD)(st bb:Nat)(sb:ZO)(txg keep:Nat)(meta_:Bool)(K:KS)(c:Nat):SP:=λ h=>∃ dn N F ms es,Qu V sb K c N F ms/\star (StL V st bb sb txg keep meta_ dn c N F ms es) h
section
variable{V:VD}{st bb:Nat}{sb:ZO}{txg keep:Nat}{meta_:Bool}
theorem Bt.opn{W w:World}{h:Hl}{l:List SP}{K:KS}{c:Nat}(B:Bt W h (Qe V st bb sb txg keep meta_ K c::l) w):∃ dn N F ms es,Qu V sb K c N F ms/\Bt W h (StL V st bb sb txg keep meta_ dn c N F ms es++l) w:=by
 obtain⟨dn,B1⟩:=B.ex;obtain⟨N,B1⟩:=B1.ex;obtain⟨F,B1⟩:=B1.ex;obtain⟨ms,B1⟩:=B1.ex;obtain⟨es,B1⟩:=B1.ex;obtain⟨ok,B1⟩:=B1.pure;exact⟨dn,N,F,ms,es,ok,B1.flat⟩
theorem Bt.shut_st{W w:World}{h:Hl}{l:List SP}{K:KS}{c N:Nat}{F:Nat->Nat->ByteArray}{ms:List MD}{es:List Nat}{d fx bn bcap:Nat}{bad:Option Addr}{born:List (List Value)}(ok:Qu V sb K c N F ms)(hb:fx=0/\bn+c<=1000000000)
  (B:Bt W h (Zd st (Qs V bb txg keep meta_ (Jk d)) 169::Zd d #[.int .i64 fx,.slice bad bn bcap] 268::Zw 50 12 bad bn bcap born::ZE V N F::X9 sb::ZV bb sb V.secs ms es::l) w):Bt W h (Qe V st bb sb txg keep meta_ K c::l) w:=by
 have B1:Bt W h (Zd d _ _::Zw _ _ _ _ _ _::Zd st (Qs V bb txg keep meta_ (Jk d)) 169::ZE V N F::X9 sb::ZV bb sb V.secs ms es::l) w:=B.perm ((List.Perm.swap ..).trans (.cons _ (.swap ..)));have B2:Bt W h (Ul (Jk d) c::_) w:=(B1.app [_,_]).head λ h s=>.inr ⟨d,fx,bad,bn,bcap,born,rfl,hb,s⟩
 exact((B2.perm (List.Perm.swap ..)).app [_,_,_,_,_]).head λ h s=>⟨Jk d,N,F,ms,es,ok,s⟩
theorem Zgn(K:KS)(c:Nat)(p:Pt)(t:ByteArray)(hK:K p t):Tq 319 #[.pointer (some ⟨st,0,none⟩),.agg p.cs] (Qe V st bb sb txg keep meta_ K c) λ v q=>v=.tuple #[.string t,.int .i64 0]/\q=Qe V st bb sb txg keep meta_ K c:=by
 refine Tq.of λ W h B0=>?_
 obtain⟨dn,N,F,ms,es,ok,B⟩:=B0.opn;simp only [StL,List.append_nil,List.cons_append,List.nil_append]at B;clear B0;haveI:Zn V F W:=⟨N,ii⟩
 obtain⟨vok,_⟩:=Zo V F W;obtain⟨dv,HR⟩:=ZgX vok (ok.kept.held p t hK)
 go_in
 go_wp2_with fail;refine plZ (.q [0,1,2,3,4] (.c 5 (.q [6,7] (.f [8] (.g 9 (.x [10] (.q [11] .d))))))) ?_;simp only [Zk.run,pick,gZ,gS,gA,gN]
 (repeat(first|((with_reducible apply Zc);(·exact rfl);(·rintro _ ⟨gq,rfl⟩;exact ii);go_frame)|go_big_quiet_step (exact qZ)));refine nZ ?_
 (with_reducible apply za);(·kernel_rfl);(·rintro _ ⟨gC,rfl⟩;simp [Act.eval];exact inferInstance)
 go_frame
 (repeat go_big_quiet_step (exact qZ));refine nZ ?_
 (repeat go_big_quiet_step (exact qZ));refine nZ ?_
 rintro w1 hw1;have B1:Bt W h _ w1:=Ze hw1;go_wp2_with fail;dsimp only [Nx];refine⟨by obtain⟨g,rfl⟩:=hw1;exact⟨_,ZK _ _ _⟩,?_⟩;clear hw1;rintro w2 hw2;have B2:Bt W h _ w2:=Ze hw2;clear hw2;go_wp2_with fail;dsimp only [Nx]
 (repeat go_big_quiet_step (exact qZ));refine nZ ?_
 rintro w3 hw3;have B3:Bt W h _ w3:=Ze hw3;clear hw3;go_wp2_with fail;have B4:Bt W h (Ul dn c::_) w3:=B3.front (i:=3) rfl;clear B B1 B2 B3 HR;rcases B4.dn with ⟨rfl,hc,B5⟩|⟨d,fx,bad,bn,bcap,born,rfl,⟨rfl,hb⟩,B5⟩
 ·clear B4;have B6:Bt W h [_,_,_,_,_,_] w3:=B5;clear B5
  go_region_with (go_at_call 116;refine(Bt.call (JS V st bb txg keep meta_ c hc)).mono ?_;rintro e w4 ⟨v,q,rfl,⟨d,rfl,rfl⟩,B7⟩;have B7':Bt W h (_::_::_::_::_::_::[]) w4:=B7.front (i:=2) rfl;have B8:Bt W h [_,_,_,_,_,_,_] w4:=B7'.flat;clear B7 B7')
  all_goals go_wp2_with fail
  all_goals go_ret2
  all_goals(first|apply Zv|apply Zu)
  all_goals
   have B9:Bt W h [_,_,_,_,_,_,_] (w4.setCell ⟨d,0,none⟩ (.int .i64 0)):=ii;have B10:=B9.more (Zw.nil 50 12 _);exact⟨⟨rfl,rfl⟩,(Bt.shut_st (fx:=0) ok ⟨rfl,by omega⟩ ((((((B10.front (i:=6) rfl).front (i:=6) rfl).front (i:=6) rfl).front (i:=7) rfl).front (i:=5) rfl).front (i:=5) rfl)).fin_at 0 rfl⟩
 ·clear B4;have B6:Bt W h [_,_,_,_,_,_,_,_] w3:=B5;clear B5;haveI:∀ w,[Zh w st (Qs V bb txg keep meta_ (Jk d))]->Fn 116 #[.pointer (some ⟨st,0,none⟩)] w (Jk d):=λ w _=>Jw V st bb txg keep meta_ d w
  refine plZ (.q [0,1,2,3,4,5,6,7,8,9] (.x [10] .d)) ?_;simp only [Zk.run,pick,gZ,gS,gA,gN]
  (repeat go_big_quiet_step (exact qZ));refine nZ ?_
  rintro w4 hw4;have B7:Bt W h _ w4:=Ze hw4;clear hw4;go_wp2_with fail;dsimp only [Nx];rintro w5 hw5;have B8:Bt W h _ w5:=Ze hw5;clear hw5;go_wp2_with fail;go_ret2
  (first|apply Zv|apply Zu)
  exact⟨⟨rfl,rfl⟩,(Bt.shut_st (fx:=0) ok ⟨rfl,hb⟩ ((((((B8.front (i:=7) rfl).front (i:=7) rfl).front (i:=7) rfl).front (i:=4) rfl).front (i:=4) rfl).front (i:=7) rfl)).fin_at 0 rfl⟩
end
section
variable{V:VD}{st bb:Nat}{sb:ZO}{txg keep:Nat}{meta_:Bool}
theorem Zg2(K:KS)(c:Nat):Tq 66 #[.pointer (some ⟨st,0,none⟩),.bool true] (Qe V st bb sb txg keep meta_ K c) λ v q=>∃ st2,v=.pointer (some ⟨st2,0,none⟩)/\q=Qe V st2 bb sb txg keep true K c:=by
 refine Tq.of λ W h B0=>?_
 obtain⟨dn,N,F,ms,es,ok,B⟩:=B0.opn;simp only [StL,List.append_nil,List.cons_append,List.nil_append]at B;clear B0;have B1:Bt W h (_::_) W:=B.app [_,_];clear B
 go_in
 go_wp2_with fail;refine(Bt.call (ZiY V st bb txg keep meta_ dn c)).mono ?_;rintro e w1 ⟨v,q,rfl,⟨d,fx,bad,bn,bcap,born,rfl,⟨rfl,hb⟩,rfl⟩,B2⟩;have B3:Bt W h [_,_,_,_,_,_] w1:=B2.flat;clear B1 B2;dsimp only;go_wp2_with fail;go_ret
 (first|apply Zv|apply Zu)
 have B4:Bt W h [_,_,_,_,_,_,_] (w1.alloc (.cells (Qs V bb txg keep true (Jk d)) 169)):=ii;exact⟨⟨w1.heap.size,rfl,rfl⟩,(Bt.shut_st ok ⟨rfl,hb⟩ B4.drop1).fin_at 0 rfl⟩
theorem YC.of_blk{t:TypeId}{z g cap:Nat}{L:List (List Value)}{cs:Array Value}{h:Hl}(b:Zd g cs t h)(h1:cs.toList=L.flatten)(h2:∀ x∈L,x.length=z)(h3:L.length=cap)(h4:cs.size=cap*z):YC t z g cap L h:=⟨cs,b,h4,by rw [h3,<- h4,<- Array.length_toList,List.take_length,h1],h2,by omega⟩
theorem ZoQ{W w:World}{h:Hl}{a b c p q r:SP}(B:Bt W h [a,b,c,p,q,r] w):Zg W h (star [p,q,r]) w:=(B.drop.drop.drop.app [_,_,_]).fin_at 0 rfl
theorem Zmd{W w:World}{h:Hl}{a b c d e p q r:SP}(B:Bt W h [a,b,c,d,e,p,q,r] w):Zg W h (star [p,q,r]) w:=(B.drop.drop.drop.drop.drop.app [_,_,_]).fin_at 0 rfl
theorem ZdM{W w:World}{h:Hl}{bk n:Nat}{cs:Array Value}{t:TypeId}{L:List (List Value)}{b c p q r:SP}(h1:cs.toList=L.flatten)(h2:∀ x∈L,x.length=2)(h3:L.length=n)(B:Bt W h [Zd bk cs t,b,c,p,q,r] w):Zg W h (star [p,YC t 2 bk n L,q,r]) w :=
 (((B.drop1.drop1.head λ _ s=>YC.of_blk s h1 h2 h3 (by rw [<-Array.length_toList,h1,Yy h2,h3])).perm (.swap ..)).app [_,_,_,_]).fin_at 0 rfl
theorem Zkx{W w:World}{h:Hl}{bk n:Nat}{cs:Array Value}{t:TypeId}{L:List (List Value)}{b c d e p q r:SP}(h1:cs.toList=L.flatten)(h2:∀ x∈L,x.length=2)(h3:L.length=n)(B:Bt W h [Zd bk cs t,b,c,d,e,p,q,r] w):Zg W h (star [p,YC t 2 bk n L,q,r]) w :=
 ZdM h1 h2 h3 B.drop1.drop1
def JE(i a:Nat):List Value:=[.int .i64 i,.int .i64 a]
def Zpc(V:VD)(st bb:Nat)(sb:ZO)(txg keep:Nat)(meta_:Bool)(dn:Value)(ms:List MD)(size:Nat)(v:Value)(q:SP):Prop :=
 (∃ sl e ms' es',e≠0/\v=.tuple #[sl,.int .i64 e]/\Alike ms ms'/\q=star [Zd st (Qs V bb txg keep meta_ dn) 169,X9 sb,ZV bb sb V.secs ms' es']) \/
 (∃ b i a n ms0 ms' es',v=.tuple #[.slice (some ⟨b,0,none⟩) 1 1,.int .i64 0]/\Alike ms ms0/\ze sb V.secs ms0 ms' size i a n/\q=star [Zd st (Qs V bb txg keep meta_ dn) 169,YC 45 2 b 1 [JE i a],X9 sb,ZV bb sb V.secs ms' es']) \/
 (∃ b i a n j c k ms1 ms' es',v=.tuple #[.slice (some ⟨b,0,none⟩) 2 2,.int .i64 0]/\ze sb V.secs ms ms1 size i a n/\ze sb V.secs ms1 ms' size j c k/\q=star [Zd st (Qs V bb txg keep meta_ dn) 169,YC 45 2 b 2 [JE i a,JE j c],X9 sb,ZV bb sb V.secs ms' es'])
theorem Zfr(dn:Value)(ms:List MD)(es:List Nat)(size level:Nat)(hz:1<=size/\size<=4)(hk:keep<=1000) :
  Tq 323 #[.pointer (some ⟨st,0,none⟩),.int .i64 size,.int .i64 level] (star [Zd st (Qs V bb txg keep meta_ dn) 169,X9 sb,ZV bb sb V.secs ms es]) (Zpc V st bb sb txg keep meta_ dn ms size):=by
 refine Tq.of λ W h B0=>?_
 have B:=B0.flat;simp only [List.append_nil]at B;clear B0;haveI:YK bb sb V.secs ms es W:=⟨ii⟩
 obtain⟨x,hx⟩:∃ x,JN ms ms.length=x:=⟨_,rfl⟩
 have HL:∀ w,[YK bb sb V.secs ms es w]->Fn 294 #[.pointer (some ⟨bb,0,none⟩)] w (.int .i64 x):=λ w _=>by rw [<-hx];exact ZhF bb sb V.secs ms es w
 clear hx
 go_in
 go_wp2_with fail;refine plZ (.q [0,1,2,3,4,5,6,7,8,9,10] .d) ?_;simp only [Zk.run,pick,gZ,gS,gA,gN]
 (repeat go_big_quiet_step (exact qZ));refine nZ ?_
 refine Z4 ?_;intro w1 B1;clear B
 by_cases hlt:x<(keep:Int)+16
 ·go_wp2_with fail;go_ret2
  (first|apply Zv|apply Zu)
  exact⟨.inl ⟨_,8,ms,es,by decide,rfl,rfl,rfl⟩,(B1.app [_,_,_]).fin_at 0 rfl⟩
 ·by_cases hl:0<level
  ·have hl':(0:Int)<level:=by omega
   go_wp2_with fail;refine(Bt.call2 (kq bb sb V.secs ms es size hz true)).mono ?_;rintro e w2 ⟨v,q,rfl,hq,C0⟩;rcases hq with ⟨rfl,ms2,es2,a2,rfl⟩|⟨h2,_⟩|⟨_,i,a,n,j,b,k,ms1,ms2,es2,rfl,T1,T2,rfl⟩
   ·have C1:Bt W h [_,_,_] w2:=C0.unrot;clear C0 B1;dsimp only;go_wp2_with fail;refine(Bt.call2 (kq bb sb V.secs ms2 es2 size hz false)).mono ?_;rintro e w9 ⟨v,q,rfl,hq,C0⟩;rcases hq with ⟨rfl,ms9,es9,a9,rfl⟩|⟨_,i,a,n,ms9,es9,rfl,T9,rfl⟩|⟨h9,_⟩
    ·have C1:Bt W h [_,_,_,_,_] w9:=C0.unrot;clear C0;dsimp only;go_wp2_with((with_reducible apply Za);(·exact rfl);(·exact ii));go_ret2
     (first|apply Zv|apply Zu)
     exact⟨.inl ⟨_,8,ms9,es9,by decide,rfl,a9.trans a2,rfl⟩,Zmd ii⟩
    ·have C1:Bt W h [_,_,_,_,_] w9:=C0.unrot;clear C0;dsimp only [ZaH];go_wp2_with((with_reducible apply Za);(·exact rfl);(·exact ii));go_ret2
     (first|apply Zv|apply Zu)
     exact⟨.inr (.inl ⟨w9.heap.size+1+1,i,a,n,ms2,ms9,es9,rfl,a2,T9,rfl⟩),Zkx rfl (by simp [JE]) rfl ii⟩
    ·cases h9
   ·cases h2
   ·have C1:Bt W h [_,_,_] w2:=C0.unrot;clear C0 B1;dsimp only [ZaH];go_wp2_with((with_reducible apply Za);(·exact rfl);(·exact ii));go_ret2
    (first|apply Zv|apply Zu)
    exact⟨.inr (.inr ⟨w2.heap.size+1+1,i,a,n,j,b,k,ms1,ms2,es2,rfl,T1,T2,rfl⟩),ZdM rfl (by simp [JE]) rfl ii⟩
  ·obtain rfl:level=0:=by omega
   cases meta_
   ·go_wp2_with fail;refine(Bt.call2 (kq bb sb V.secs ms es size hz false)).mono ?_;rintro e w9 ⟨v,q,rfl,hq,C0⟩;rcases hq with ⟨rfl,ms9,es9,a9,rfl⟩|⟨_,i,a,n,ms9,es9,rfl,T9,rfl⟩|⟨h9,_⟩
    ·have C1:Bt W h [_,_,_] w9:=C0.unrot;clear C0;dsimp only;go_wp2_with((with_reducible apply Za);(·exact rfl);(·exact ii));go_ret2
     (first|apply Zv|apply Zu)
     exact⟨.inl ⟨_,8,ms9,es9,by decide,rfl,a9,rfl⟩,ZoQ ii⟩
    ·have C1:Bt W h [_,_,_] w9:=C0.unrot;clear C0;dsimp only [ZaH];go_wp2_with((with_reducible apply Za);(·exact rfl);(·exact ii));go_ret2
     (first|apply Zv|apply Zu)
     exact⟨.inr (.inl ⟨w9.heap.size+1+1,i,a,n,ms,ms9,es9,rfl,rfl,T9,rfl⟩),ZdM rfl (by simp [JE]) rfl ii⟩
    ·cases h9
   ·go_wp2_with fail;refine(Bt.call2 (kq bb sb V.secs ms es size hz true)).mono ?_;rintro e w2 ⟨v,q,rfl,hq,C0⟩;rcases hq with ⟨rfl,ms2,es2,a2,rfl⟩|⟨h2,_⟩|⟨_,i,a,n,j,b,k,ms1,ms2,es2,rfl,T1,T2,rfl⟩
    ·have C1:Bt W h [_,_,_] w2:=C0.unrot;clear C0 B1;dsimp only;go_wp2_with fail;refine(Bt.call2 (kq bb sb V.secs ms2 es2 size hz false)).mono ?_;rintro e w9 ⟨v,q,rfl,hq,C0⟩;rcases hq with ⟨rfl,ms9,es9,a9,rfl⟩|⟨_,i,a,n,ms9,es9,rfl,T9,rfl⟩|⟨h9,_⟩
     ·have C1:Bt W h [_,_,_,_,_] w9:=C0.unrot;clear C0;dsimp only;go_wp2_with((with_reducible apply Za);(·exact rfl);(·exact ii));go_ret2
      (first|apply Zv|apply Zu)
      exact⟨.inl ⟨_,8,ms9,es9,by decide,rfl,a9.trans a2,rfl⟩,Zmd ii⟩
     ·have C1:Bt W h [_,_,_,_,_] w9:=C0.unrot;clear C0;dsimp only [ZaH];go_wp2_with((with_reducible apply Za);(·exact rfl);(·exact ii));go_ret2
      (first|apply Zv|apply Zu)
      exact⟨.inr (.inl ⟨w9.heap.size+1+1,i,a,n,ms2,ms9,es9,rfl,a2,T9,rfl⟩),Zkx rfl (by simp [JE]) rfl ii⟩
     ·cases h9
    ·cases h2
    ·have C1:Bt W h [_,_,_] w2:=C0.unrot;clear C0 B1;dsimp only [ZaH];go_wp2_with((with_reducible apply Za);(·exact rfl);(·exact ii));go_ret2
     (first|apply Zv|apply Zu)
     exact⟨.inr (.inr ⟨w2.heap.size+1+1,i,a,n,j,b,k,ms1,ms2,es2,rfl,T1,T2,rfl⟩),ZdM rfl (by simp [JE]) rfl ii⟩
end
theorem Tq.u{f:FuncId}{args:Array Value}{p q0:SP}{v0:Value}(t:Tq f args p λ v q=>v=v0/\q=q0):Tu f args p λ v h=>v=v0/\q0 h:=λ W h i s=>(t W h i s).mono λ e w' ⟨v,q,e1,⟨e2,e3⟩,m,h',i',x,hq⟩=>⟨v,e1,m,h',i',x,e2,e3▸hq⟩
section
variable{V:VD}{st bb:Nat}{sb:ZO}{txg keep:Nat}{meta_:Bool}
set_option maxRecDepth 512 in
theorem ZiH(t:ByteArray)(h0:t.size≠0)(h1:t.size%64=0)(h2:t.size<=256)(W:World):Fn 322 #[.string t] W (.bool true):=by
 refine⟨?_⟩;have e1:((t.size:Int)%64==0)=true:=by simp;omega
 have e2:decide ((t.size:Int)<=256)=true:=by simp;omega
 have hne:t.toList.isEmpty=false:=Yg (by omega)
 go_in
 go_wp2_with fail;go_ret;exact ZM.mk rfl grown
theorem ZjA(b3 b4 b8:Nat)(dn:Value)(N:Nat)(F:Nat->Nat->ByteArray)(i a z:Nat)(t:ByteArray)(ht:t.size=64*z)(hm:XG V.s V.secs i a z=true)(hN:N+32<=1000000000000) :
  Tq 325 #[.agg #[.int .i64 i,.int .i64 a],.pointer (some ⟨b3,0,none⟩),.pointer (some ⟨b4,0,none⟩),.pointer (some ⟨b8,0,none⟩)] (star [Zd b3 #[.pointer (some ⟨st,0,none⟩)] 110,Zd b4 #[.string t] 9,Zd st (Qs V bb txg keep meta_ dn) 169,ZE V N F]) λ v q =>
   v=.bool false/\q=star [Zd b3 #[.pointer (some ⟨st,0,none⟩)] 110,Zd b4 #[.string t] 9,Zd st (Qs V bb txg keep meta_ dn) 169,ZE V (N+32) (putAt V.s F i a z t)]:=by
 refine Tq.of λ W h B0=>?_
 have B:=B0.flat;simp only [List.append_nil]at B;clear B0;have VW:Tq 326 #[V.v,.agg #[.int .i64 i,.int .i64 a],.string t] (ZE V N F) λ v q=>v=.tuple #[.int .i64 0,.int .i64 0]/\q=ZE V (N+32) (putAt V.s F i a z t):=(Zef V N F i a z t ht hm hN).qv
 go_in
 go_wp2_with fail;refine plZ (.q [0,1,2,3,4,5] (.x [6] (.q [7,8,9,10,11] .d))) ?_;simp only [Zk.run,pick,gZ,gS,gA,gN]
 (repeat go_big_quiet_step (exact qZ));refine nZ ?_
 refine Z4 ?_;intro w1 B1;clear B;go_wp2_with fail;refine(Bt.call VW).mono ?_;rintro e w2 ⟨v,q,rfl,⟨rfl,rfl⟩,B2⟩;dsimp only at B2 ⊢;go_wp2_with fail;dsimp only [Nx]
 (repeat go_big_quiet_step (exact qZ));refine nZ ?_
 rintro w3 hw3;have B3:Bt W h [_,_,_,_,_] w3:=Ze hw3;clear hw3;go_wp2_with fail;go_ret
 (first|apply Zv|apply Zu)
 exact⟨⟨rfl,rfl⟩,(B3.drop.app [_,_,_,_]).fin_at 0 rfl⟩
end
def ptA(i a z lv txg:Nat)(t:ByteArray):Pt:=⟨i,a,0,0,false,z,lv,txg,Yh t⟩
def ptB(i a j b z lv txg:Nat)(t:ByteArray):Pt:=⟨i,a,j,b,true,z,lv,txg,Yh t⟩
theorem Xs{p:Pt}(h:1<=p.birth):p.isNone=false:=by
 cases hn:p.isNone
 ·rfl
 ·have:=(J5 p Pt.none).1 hn;rw [this]at h;exact absurd h (by decide)
theorem ze.pos{s:ZO}{secs:Int}{ms ms':List MD}{size i a n:Nat}(h:ZT s secs)(t:ze s secs ms ms' size i a n)(hz:1<=size/\size<=4):1<=n:=by
 have h1:=QZ h t.lt hz;have h2:=t.hn;omega
theorem Xo.uni{s:ZO}{secs:Int}{F:Nat->Nat->ByteArray}{U:Nat->Nat->Prop}{K:KS}(h:ZT s secs)(kp:Xo s secs F U K)(p q:Pt)(t t':ByteArray)(hp:K p t)(hq:K q t')(e1:p.ag=q.ag)(e2:p.aa=q.aa):p=q:=by
 refine(kp.apart p q t t' hp hq).resolve_right λ hn=>?_
 obtain⟨g1,a1,z1,f1,f2,f3,h1,h2,_⟩:=(kp.held p t hp).ok.in_ h;obtain⟨g2,a2,z2,i1,i2,i3,j1,j2,_⟩:=(kp.held q t' hq).ok.in_ h;have k1:=QZ h h1 h2;have k2:=QZ h j1 j2;refine hn g1 a1 (.inl ⟨by omega,by omega,?_⟩) (.inl ⟨by omega,by omega,?_⟩)
 ·rw [f1,f2,f3,Int.toNat_natCast];omega
 ·rw [i1,i2,i3,Int.toNat_natCast];omega
theorem Zce{s:ZO}{secs:Int}(h:ZT s secs){F:Nat->Nat->ByteArray}{g a z:Nat}(hg:g<s.len)(hz:1<=z/\z<=4)(t:ByteArray){d k:Nat}(hk:k<16):putAt s F g a z t d k=F d k:=by
 refine zp λ x hx e2=>?_
 obtain⟨j,hj⟩:=List.getElem?_of_mem hx;obtain⟨h1,_⟩:=(List.getElem?_zip_eq_some (z:=x)).1 hj;have p:=Xl h hg hz h1;omega
section
variable{V:VD}{sb:ZO}{K:KS}{N:Nat}{F:Nat->Nat->ByteArray}{ms ms1 ms2:List MD}{i a n j b k z lv txg:Nat}{t:ByteArray}
theorem jo(g:ZT V.s V.secs)(sm:X6 sb V.s)(kp:Xo V.s V.secs F (YX ms) K)(tk:ze sb V.secs ms ms1 z i a n)(hz:1<=z/\z<=4)(t:ByteArray):Xo V.s V.secs (putAt V.s F i a z t) (YX ms1) K:=by
 have hn:=tk.hn;rw [sm.tak]at hn;exact(kp.put g (by rw [<-sm.len];exact tk.lt) hz t λ u u1 u2=>tk.free u u1 (by omega)).more λ g u h=>(tk.used g u).2 (.inl h)
theorem Qu.kp{c:Nat}(ok:Qu V sb K c N F ms)(hc:1<=c):Xo V.s V.secs F (YX ms) K:=ok.kept.more λ g u h=>h.resolve_left λ e=>by have:=ok.ro e;omega
theorem Xo.us(k:Xo V.s V.secs F (YX ms) K):Xo V.s V.secs F (V.us ms) K:=k.more λ _ _ h=>.inr h
theorem QH(g:ZT V.s V.secs)(sm:X6 sb V.s)(tk:ze sb V.secs ms ms1 z i a n)(hz:1<=z/\z<=4){t:ByteArray}(r:∀ d k,k<16->F d k=V.rg d k):∀ d k,k<16->putAt V.s F i a z t d k=V.rg d k :=
 λ d k hk=>(Zce g (by rw [<-sm.len];exact tk.lt) hz t hk).trans (r d k hk)
theorem Zh3{i a j b z lv txg:Nat}{two:Bool}{t:ByteArray}(h1:i<=4)(h2:a<=40000)(h3:j<=4)(h4:b<=40000)(hz:z<=4)(hl:lv<=3)(ht:txg<=4294967295):Pt.fit ⟨i,a,j,b,two,z,lv,txg,Yh t⟩:=by
 refine⟨?_,?_⟩
 ·simp only [Pt.ok,Y7,List.all_cons,List.all_nil,Bool.and_true,Bool.and_eq_true,okN,decide_eq_true_eq];omega
 ·exact V3 QX _
theorem VH(g:ZT V.s V.secs)(sm:X6 sb V.s)(kp:Xo V.s V.secs F (YX ms) K)(tk:ze sb V.secs ms ms1 z i a n)(hz:1<=z/\z<=4)(ht:t.size=64*z)(hl:lv<=3)(hx:1<=txg/\txg<=4294967295) :
  Xo V.s V.secs (putAt V.s F i a z t) (YX ms1) (K.add (ptA i a z lv txg t) t):=by
 have gb:ZT sb V.secs:=by
  obtain⟨g1,g2,g3,g4,g5⟩:=g;refine⟨by rw [sm.len];exact g1,by rw [sm.len];exact g2,g3,g4,?_⟩;intro k hk;have:=g5 k (by rw [<-sm.len];exact hk);rw [sm.x,sm.y];exact this
 have hm:=tk.may (tk.pos gb hz);rw [sm.may]at hm;haveI:Ky V.s V.secs:=⟨g⟩
 obtain⟨⟨g0,g1⟩,_,a0,a1⟩:=Xg hm;have hil:i<V.s.len:=by rw [<-sm.len];exact tk.lt
 have h4:=g.2.1;have hn:=tk.hn;rw [sm.tak]at hn;refine(jo g sm kp tk hz t).add ⟨⟨by simp only [ptA];omega,by simp only [ptA];omega,hm,λ _=>⟨rfl,rfl⟩,(λ h=>by cases h)⟩,Zh3 (j:=0) (b:=0) (by omega) (by omega) (by omega) (by omega) hz.2 hl hx.2,by simp only [ptA,Int.toNat_natCast];exact ht,rfl,?_⟩ (λ g u hu=>?_) ?_
 ·simp only [ptA,Int.toNat_natCast];exact Zat g F hil hz t
 ·obtain⟨h1,h2,h3⟩:=hu.resolve_right λ e=>by cases e.1
  simp only [ptA,Int.toNat_natCast]at h1 h2 h3;rw [<-hn]at h3;exact(tk.used g u).2 (.inr ⟨h1,h2,by omega⟩)
 ·rintro q u hq g v hv hu;obtain⟨h1,h2,h3⟩:=hu.resolve_right λ e=>by cases e.1
  simp only [ptA,Int.toNat_natCast]at h1 h2 h3;rw [<-hn]at h3;subst h1;exact tk.free v h2 (by omega) (kp.used q u hq _ v hv)
theorem VX(g:ZT V.s V.secs)(sm:X6 sb V.s)(kp:Xo V.s V.secs F (YX ms) K)(tk:ze sb V.secs ms ms1 z i a n)(tk2:ze sb V.secs ms1 ms2 z j b k)(hz:1<=z/\z<=4)(ht:t.size=64*z)(hl:lv<=3)(hx:1<=txg/\txg<=4294967295) :
  Xo V.s V.secs (putAt V.s (putAt V.s F i a z t) j b z t) (YX ms2) (K.add (ptB i a j b z lv txg t) t):=by
 have gb:ZT sb V.secs:=by
  obtain⟨g1,g2,g3,g4,g5⟩:=g;refine⟨by rw [sm.len];exact g1,by rw [sm.len];exact g2,g3,g4,?_⟩;intro k hk;have:=g5 k (by rw [<-sm.len];exact hk);rw [sm.x,sm.y];exact this
 have hp1:=tk.pos gb hz;have hp2:=tk2.pos gb hz;have hm:=tk.may hp1;rw [sm.may]at hm;have hm2:=tk2.may hp2;rw [sm.may]at hm2;haveI:Ky V.s V.secs:=⟨g⟩
 obtain⟨⟨g0,g1⟩,_,a0,a1⟩:=Xg hm;obtain⟨⟨g0',g1'⟩,_,a0',a1'⟩:=Xg hm2;have hil:i<V.s.len:=by rw [<-sm.len];exact tk.lt
 have hjl:j<V.s.len:=by rw [<-sm.len];exact tk2.lt
 have h4:=g.2.1;have hn:=tk.hn;have hk:=tk2.hn;rw [sm.tak]at hn hk
 have hap:i=j->a+n<=b\/b+k<=a:=λ e=>by
  subst e;rcases Nat.lt_or_ge b (a+n)with h1|h1
  ·rcases Nat.lt_or_ge a (b+k)with h2|h2
   ·rcases Nat.le_total a b with h3|h3
    ·exact absurd ((tk.used i b).2 (.inr ⟨rfl,h3,h1⟩)) (tk2.free b (Nat.le_refl _) (by omega))
    ·exact absurd ((tk.used i a).2 (.inr ⟨rfl,Nat.le_refl _,by omega⟩)) (tk2.free a h3 h2)
   ·exact .inr h2
  ·exact .inl h1
 have k1:=jo g sm kp tk hz t;refine(jo g sm k1 tk2 hz t).add ⟨⟨by simp only [ptB];omega,by simp only [ptB];omega,hm,(λ h=>by cases h),λ _=>⟨hm2,?_⟩⟩,Zh3 (by omega) (by omega) (by omega) (by omega) hz.2 hl hx.2,by simp only [ptB,Int.toNat_natCast];exact ht,rfl,?_⟩ (λ g u hu=>?_) ?_
 ·simp only [ptB];rw [<-hn,<- hk]
  by_cases e:i=j
  ·have:=hap e;omega
  ·omega
 ·simp only [ptB,Int.toNat_natCast];refine kV g hil hjl hz hz t (λ e u hu hu'=>?_) (Zat g F hil hz t);subst e;rw [ql hil hz]at hn hk;rw [<-hn]at hu;rw [<-hk]at hu';have:=hap rfl;omega
 ·rcases hu with ⟨h1,h2,h3⟩|⟨_,h1,h2,h3⟩
  ·simp only [ptB,Int.toNat_natCast]at h1 h2 h3;rw [<-hn]at h3;exact(tk2.used g u).2 (.inl ((tk.used g u).2 (.inr ⟨h1,h2,by omega⟩)))
  ·simp only [ptB,Int.toNat_natCast]at h1 h2 h3;rw [<-hk]at h3;exact(tk2.used g u).2 (.inr ⟨h1,h2,by omega⟩)
 ·rintro q u hq g v hv (⟨h1,h2,h3⟩|⟨_,h1,h2,h3⟩)
  ·simp only [ptB,Int.toNat_natCast]at h1 h2 h3;rw [<-hn]at h3;subst h1;exact tk.free v h2 (by omega) (kp.used q u hq _ v hv)
  ·simp only [ptB,Int.toNat_natCast]at h1 h2 h3;rw [<-hk]at h3;subst h1;exact tk2.free v h2 (by omega) (k1.used q u hq _ v hv)
end
theorem X6.good{a b:ZO}(sm:X6 a b){secs:Int}(g:ZT b secs):ZT a secs:=by
 obtain⟨g1,g2,g3,g4,g5⟩:=g;refine⟨by rw [sm.len];exact g1,by rw [sm.len];exact g2,g3,g4,?_⟩;intro k hk;have:=g5 k (by rw [<-sm.len];exact hk);rw [sm.x,sm.y];exact this
theorem YC.blk{t:TypeId}{z g n:Nat}{L:List (List Value)}{h:Hl}(r:YC t z g n L h)(hn:L.length=n):Zd g L.flatten.toArray t h:=by
 obtain⟨cur,b,h1,h2,h3,h4⟩:=r
 have:cur=L.flatten.toArray:=by
  rw [<-h2,hn,<- h1,<- Array.length_toList,List.take_length]
 rw [<-this];exact b
section
variable{V:VD}{st bb:Nat}{sb:ZO}{txg keep:Nat}{meta_:Bool}
theorem Bt.shut0{W w:World}{h:Hl}{l:List SP}{K:KS}{c N:Nat}{F:Nat->Nat->ByteArray}{ms:List MD}{es:List Nat}{dn:Value}(ok:Qu V sb K c N F ms)(B:Bt W h (Zd st (Qs V bb txg keep meta_ dn) 169::Ul dn c::ZE V N F::X9 sb::ZV bb sb V.secs ms es::l) w):Bt W h (Qe V st bb sb txg keep meta_ K c::l) w:=(B.app [_,_,_,_,_]).head λ h s=>⟨dn,N,F,ms,es,ok,s⟩
theorem Ul.less{dn:Value}{c c':Nat}(hc:c'<=c){h:Hl}(p:Ul dn c h):Ul dn c' h:=by
 rcases p with ⟨h1,h2⟩|⟨d,fx,bad,bn,bcap,born,e,⟨h1,h2⟩,s⟩
 ·exact .inl ⟨h1,by omega⟩
 ·exact .inr ⟨d,fx,bad,bn,bcap,born,e,⟨h1,by omega⟩,s⟩
theorem Qu.less{K:KS}{c c' N:Nat}{F:Nat->Nat->ByteArray}{ms ms':List MD}(o:Qu V sb K c N F ms)(hc:c'<=c)(a:Alike ms ms'):Qu V sb K c' N F ms':=⟨o.same,o.kept.more λ g u h=>h.imp id (a.used g u).2,by have:=o.bd;omega,o.ring,λ e=>by have:=o.ro e;omega⟩
def ZkZ(V:VD)(st bb txg keep:Nat)(meta_:Bool)(b3 b4:Nat)(t:ByteArray)(dn:Value)(N:Nat)(F:Nat->Nat->ByteArray):SP:=star [Zd b3 #[.pointer (some ⟨st,0,none⟩)] 110,Zd b4 #[.string t] 9,Zd st (Qs V bb txg keep meta_ dn) 169,ZE V N F]
theorem Zii{L:List (Nat × Nat)}:∀ x∈L.map λ p=>JE p.1 p.2,∀ v∈x,v.oneCell'=true:=by
 intro x hx v hv;obtain⟨p,_,rfl⟩:=List.mem_map.1 hx;simp only [JE,List.mem_cons,List.not_mem_nil,or_false]at hv;rcases hv with rfl|rfl<;>rfl
theorem Zj2{L:List (Nat × Nat)}:∀ x∈L.map λ p=>JE p.1 p.2,x.length=2:=by
 intro x hx;obtain⟨p,_,rfl⟩:=List.mem_map.1 hx;rfl
theorem Zhm(xs:List (List Value)):stay (λ _=>false) xs=xs:=by
 unfold stay;have e:(List.range xs.length).filter (λ k=>!(λ _=>false) k)=List.range xs.length:=List.filter_eq_self.2 λ _ _=>rfl
 rw [e];refine List.ext_getElem? λ k=>?_
 rw [List.getElem?_map];rcases Nat.lt_or_ge k xs.length with h|h
 ·rw [List.getElem?_range h,Option.map_some,List.getElem?_eq_getElem h,getElem!_pos xs k h]
 ·rw [List.getElem?_eq_none (by simpa using h),List.getElem?_eq_none h];rfl
theorem Zgx(b3 b4 b8 b z:Nat)(dn:Value)(t:ByteArray)(L:List (Nat × Nat))(N:Nat)(F:Nat->Nat->Nat->ByteArray)(hn:L.length<=2)(ht:t.size=64*z)(hN:N+64<=1000000000000)
  (hm:∀ k p,L[k]?=some p->XG V.s V.secs p.1 p.2 z=true/\F (k+1)=putAt V.s (F k) p.1 p.2 z t) :
  Tq 324 #[.slice (some ⟨b,0,none⟩) L.length L.length,.func (.func 325) #[] #[.pointer (some ⟨b3,0,none⟩),.pointer (some ⟨b4,0,none⟩),.pointer (some ⟨b8,0,none⟩)]] (star [YC 45 2 b L.length (L.map λ p=>JE p.1 p.2),ZkZ V st bb txg keep meta_ b3 b4 t dn N (F 0)]) λ v q =>
   v=.slice (some ⟨b,0,none⟩) L.length L.length/\q=star [YC 45 2 b L.length (L.map λ p=>JE p.1 p.2),ZkZ V st bb txg keep meta_ b3 b4 t dn (N+32*L.length) (F L.length)]:=by
 have D:=Zo0 b L.length (L.map λ p=>JE p.1 p.2) (by simp;omega) Zj2 Zii 325 (by kernel_rfl) #[.pointer (some ⟨b3,0,none⟩),.pointer (some ⟨b4,0,none⟩),.pointer (some ⟨b8,0,none⟩)] (λ _=>false) (λ k=>ZkZ V st bb txg keep meta_ b3 b4 t dn (N+32*k) (F k)) (λ k x hx=>by
  rw [List.getElem?_map]at hx;obtain⟨p,hp,rfl⟩:=Option.map_eq_some_iff.1 hx;have hk:k<L.length:=(List.getElem?_eq_some_iff.1 hp).1;obtain⟨h1,h2⟩:=hm k p hp;have:=(ZjA (V:=V) (st:=st) (bb:=bb) (txg:=txg) (keep:=keep) (meta_:=meta_) b3 b4 b8 dn (N+32*k) (F k) p.1 p.2 z t ht h1 (by omega)).u;rw [<-h2]at this
  exact this)
 rw [Zhm]at D;simp only [List.length_map]at D;intro W h hw hs;refine(D W h hw hs).mono ?_;rintro e w' ⟨v,e1,m,h',i,x,e2,L',hL1,hL2,s⟩;have hL:L'=L.map λ p=>JE p.1 p.2:=by rw [<-hL1,List.take_of_length_le (by omega)]
 subst hL;exact⟨v,_,e1,⟨e2,rfl⟩,m,h',i,x,s⟩
theorem Zjw{W w:World}{h:Hl}{K:KS}{c N:Nat}{F:Nat->Nat->ByteArray}{ms ms':List MD}{es':List Nat}{dn:Value}{a b d e:SP}(ok:Qu V sb K c N F ms)(hal:Alike ms ms')(B:Bt W h [Zd st (Qs V bb txg keep meta_ dn) 169,X9 sb,ZV bb sb V.secs ms' es',a,b,d,e,Ul dn c,ZE V N F] w):Zg W h (Qe V st bb sb txg keep meta_ K (c-1)) w:=by
 have B1:Bt W h (Ul dn c::_) w:=((((B.front (i:=2) rfl).front (i:=2) rfl).front (i:=8) rfl).front (i:=8) rfl)
 have B2:Bt W h (Ul dn (c-1)::_) w:=B1.head λ h p=>p.less (by omega)
 exact(Bt.shut0 (ok.less (by omega) hal) (B2.front (i:=4) rfl)).fin_at 0 rfl
theorem Zhi{W w:World}{h:Hl}{K:KS}{c N d bn bcap:Nat}{bad:Option Addr}{born:List (List Value)}{F:Nat->Nat->ByteArray}{ms:List MD}{es:List Nat}{x0 x3 x4 x7 x10 x11:SP}(ok:Qu V sb K (c-1) N F ms)(hc:1<=c)(hb:bn+c<=1000000000)
  (B:Bt W h [x0,Zd d #[.int .i64 (0:Nat),.slice bad (bn+1) bcap] 268,Zw 50 12 bad (bn+1) bcap born,x3,x4,Zd st (Qs V bb txg keep meta_ (Jk d)) 169,ZE V N F,x7,X9 sb,ZV bb sb V.secs ms es,x10,x11] w):Zg W h (Qe V st bb sb txg keep meta_ K (c-1)) w :=
 (Bt.shut_st (fx:=0) ok ⟨rfl,by omega⟩ ((((((B.front (i:=9) rfl).front (i:=9) rfl).front (i:=8) rfl).front (i:=5) rfl).front (i:=5) rfl).front (i:=8) rfl)).fin_at 0 rfl
end
section
variable{P:Program}{ops:Array Oper}{md:Region.Mode}{Q:Exit->Act->World->Prop}{C H:World->Prop}
theorem XY{loud soft:List Nat}{H':World->Prop}(hs:∀ w,H' w->H w):∀(f:Nat)(C:World->Prop)(listed:Array Bool)(a:Act),qj P md ops loud soft H' Q f C listed a->qj P md ops loud soft H Q f C listed a
 |0,_,_,_,h=>h
 |f+1,C,listed,a,h=>⟨h.1,λ i hi=>by
   have h1:=h.2 i hi;split at h1
   ·rename_i hl;rw [if_pos hl];intro w hw;exact wpOp_mono (λ a' w' ⟨D,hD,h2,h3⟩=>⟨D,hD,λ hi v hv=>hs _ (h2 hi v hv),XY hs f D _ a' h3⟩) (h1 w hw)
   ·rename_i hl;rw [if_neg hl]
    exact qOp_mono (λ a' h3=>XY hs f C _ a' h3) h1⟩
def Zk.runY(P:Program)(ops:List Oper)(Q:Exit->Act->World->Prop)(soft:List Nat):Zk->(World->Prop)->(World->Prop)->Act->Prop
 | .d,_,C,a=>∀ w,C w->Q .normal a w
 | .q l n,H,C,a=>wpQuiet P ops.toArray C (n.runY P ops Q soft H C) (pick ops l) a
 | .f l n,H,C,a=>wpQuiet P ops.toArray H (n.runY P ops Q soft H C) (pick ops l) a
 | .x l n,H,C,a=>∀ w,C w->wpList P ops.toArray (Nx λ a' w'=>∃ H':World->Prop,(GC H'/\∀ v,H' v->H v)/\(l.all soft.contains=true->H' w')/\n.runY P ops Q soft H' (YL w') a') (pick ops l) a w
 | .y i j n m,H,C,a=>(∀ w,C w->wpList P ops.toArray (Nx λ a' w'=>∃ H':World->Prop,(GC H'/\∀ v,H' v->H v)/\(soft.contains i=true->H' w')/\n.runY P ops Q soft H' (YL w') a') (pick ops [i]) a w)/\∀ w,C w->wpList P ops.toArray (Nx λ a' w'=>∃ H':World->Prop,(GC H'/\∀ v,H' v->H v)/\(soft.contains j=true->H' w')/\m.runY P ops Q soft H' (YL w') a') (pick ops [j]) a w
 |_,_,_,_=>False
def Zk.okY(md:Region.Mode)(ops:Array Oper)(loud soft:List Nat):Bool->Zk->Array Bool->Bool
 |_,.d,listed=>(Region.ready md ops listed).isEmpty
 |b,.q l n,listed=>Go.Proofs.YtlfjdjndhcmliaaGreatDoor.okH md ops loud soft true (n.okY md ops loud soft b) l listed
 |b,.f l n,listed=>b&&Go.Proofs.YtlfjdjndhcmliaaGreatDoor.okH md ops loud soft false (n.okY md ops loud soft b) l listed
 |b,.x [i] n,listed=>decide (Region.ready md ops listed=[i])&&loud.contains i&&n.okY md ops loud soft (b&&soft.contains i) (listed.setIfInBounds i true)
 |b,.y i j n m,listed=>(Region.ready md ops listed).all (λ k=>k==i||k==j)&&!(Region.ready md ops listed).isEmpty&&loud.contains i&&loud.contains j&&decide (n.size=m.size)&&n.okY md ops loud soft (b&&soft.contains i) (listed.setIfInBounds i true)&&m.okY md ops loud soft (b&&soft.contains j) (listed.setIfInBounds j true)
 |_,_,_=>false
theorem Xx{loud soft:List Nat}(hsel:∀(j:Nat)(o:Oper) cs b,ops[j]?=some o->o.op≠.select cs b):∀(t:Zk)(b:Bool)(H C:World->Prop)(listed:Array Bool)(a:Act),GC H->(b=true->∀ w,C w->H w)->Closed md ops listed->t.okY md ops loud soft b listed=true->t.runY P ops.toList Q soft H C a ->
  qj P md ops loud soft H Q t.size C listed a
 | .d,_,H,C,listed,a,_,_,_,hB,h=>⟨by simpa [Zk.okY]using hB,h⟩
 | .q l n,b,H,C,listed,a,hH,hC,hcl,hB,h=>yC (hard:=true) hsel (λ _=>rfl) (λ h=>by cases h) (λ listed' a' hc hB' h'=>Xx hsel n b H C listed' a' hH hC hc hB' h') l listed a hcl hB (by simpa [Zk.runY]using h)
 | .f l n,b,H,C,listed,a,hH,hC,hcl,hB,h=>by
  simp only [Zk.okY,Bool.and_eq_true]at hB;exact yC (hard:=false) hsel (λ h=>by cases h) (λ _=>⟨rfl,hC hB.1⟩) (λ listed' a' hc hB' h'=>Xx hsel n b H C listed' a' hH hC hc hB' h') l listed a hcl hB.2 (by simpa [Zk.runY]using h)
 | .x [i] n,b,H,C,listed,a,hH,hC,hcl,hB,h=>by
  simp only [Zk.okY,Bool.and_eq_true,decide_eq_true_eq]at hB;obtain⟨⟨hr,hl⟩,hn⟩:=hB;have hri:i∈Region.ready md ops listed:=by rw [hr];simp
  obtain⟨_,oi,hoi,_⟩:=mem_ready.1 hri;have hoi':ops.toList[i]?=some oi:=by simpa using hoi
  rw [show (Zk.x [i] n).size=n.size+1 by simp [Zk.size,Nat.add_comm]];refine⟨by rw [hr];simp,λ j hj=>?_⟩;obtain rfl:j=i:=by rw [hr]at hj;simpa using hj
  rw [if_pos (by simpa using hl)];intro w hw;have h1:wpList P ops (Nx λ a' w'=>∃ H':World->Prop,(GC H'/\∀ v,H' v->H v)/\([j].all soft.contains=true->H' w')/\n.runY P ops.toList Q soft H' (YL w') a') (pick ops.toList [j]) a w:=by simpa [Zk.runY]using h w hw
  simp only [pick,hoi',List.append_nil]at h1;refine wpOp_mono (λ a' w' hh=>?_) (Z8 hoi h1);obtain⟨H',⟨hG,hsub⟩,h2,h3⟩:∃ H':World->Prop,(GC H'/\∀ v,H' v->H v)/\([j].all soft.contains=true->H' w')/\n.runY P ops.toList Q soft H' (YL w') a':=hh;have hs:j∈soft->∀ v,YL w' v->H' v:=λ hj v hv=>hG _ _ (h2 (by simpa using hj)) hv
  exact⟨YL w',YY w',λ hj v hv=>hsub v (hs hj v hv),XY hsub _ _ _ _ (Xx hsel n _ H' (YL w') _ a' hG (λ hb=>hs (by simp only [Bool.and_eq_true]at hb;simpa using hb.2)) (hcl.set hri) hn h3)⟩
 | .y i j n m,b,H,C,listed,a,hH,hC,hcl,hB,h=>by
  simp only [Zk.okY,Bool.and_eq_true,decide_eq_true_eq]at hB;obtain⟨⟨⟨⟨⟨⟨hr,he⟩,hli⟩,hlj⟩,hz⟩,hn⟩,hm⟩:=hB;simp only [Zk.runY]at h;rw [show (Zk.y i j n m).size=n.size+1 by simp [Zk.size]];refine⟨λ e=>by rw [e]at he;simp at he,λ k hk=>?_⟩;have hk2:=List.all_eq_true.1 hr k hk;simp only [Bool.or_eq_true,beq_iff_eq]at hk2;obtain⟨_,ok,hok,_⟩:=mem_ready.1 hk;have hok':ops.toList[k]?=some ok:=by simpa using hok
  rcases hk2 with rfl|rfl
  ·rw [if_pos (by simpa using hli)];intro w hw;have h1:=h.1 w hw;simp only [Array.toArray_toList,pick,hok',List.append_nil]at h1;refine wpOp_mono (λ a' w' hh=>?_) (Z8 hok h1);obtain⟨H',⟨hG,hsub⟩,h2,h3⟩:∃ H':World->Prop,(GC H'/\∀ v,H' v->H v)/\(soft.contains k=true->H' w')/\n.runY P ops.toList Q soft H' (YL w') a':=hh;have hs:k∈soft->∀ v,YL w' v->H' v:=λ hj v hv=>hG _ _ (h2 (by simpa using hj)) hv
   exact⟨YL w',YY w',λ hj v hv=>hsub v (hs hj v hv),XY hsub _ _ _ _ (Xx hsel n _ H' (YL w') _ a' hG (λ hb=>hs (by simp only [Bool.and_eq_true]at hb;simpa using hb.2)) (hcl.set hk) hn h3)⟩
  ·rw [if_pos (by simpa using hlj)];intro w hw;have h1:=h.2 w hw;simp only [Array.toArray_toList,pick,hok',List.append_nil]at h1;refine wpOp_mono (λ a' w' hh=>?_) (Z8 hok h1);obtain⟨H',⟨hG,hsub⟩,h2,h3⟩:∃ H':World->Prop,(GC H'/\∀ v,H' v->H v)/\(soft.contains k=true->H' w')/\m.runY P ops.toList Q soft H' (YL w') a':=hh;have hs:k∈soft->∀ v,YL w' v->H' v:=λ hj v hv=>hG _ _ (h2 (by simpa using hj)) hv
   rw [hz];exact⟨YL w',YY w',λ hj v hv=>hsub v (hs hj v hv),XY hsub _ _ _ _ (Xx hsel m _ H' (YL w') _ a' hG (λ hb=>hs (by simp only [Bool.and_eq_true]at hb;simpa using hb.2)) (hcl.set hk) hm h3)⟩
 | .x [] _,_,_,_,_,_,_,_,_,hB,_ | .x (_::_::_) _,_,_,_,_,_,_,_,_,hB,_ | .c _ _,_,_,_,_,_,_,_,_,hB,_ | .g _ _,_,_,_,_,_,_,_,_,hB,_ | .z _ _ _ _,_,_,_,_,_,_,_,_,hB,_=>by simp [Zk.okY]at hB
theorem Kt{id:Nat}{a:Act}{w:World}{l:List Oper}(H:World->Prop)(soft:List Nat)(t:Zk)(hH:GC H)(h0:H w)(hm:P.follows .mixedOrders=true)(hB:(Region.noSelect l.toArray&&decide (t.size=l.length)&&t.okY .any l.toArray t.louds soft true (Array.replicate l.length false))=true)
  (h:t.runY P l Q soft H (YL w) a):(Code.region id l.toArray true).wp P Q a w:=by
 simp only [Bool.and_eq_true,decide_eq_true_eq]at hB;obtain⟨⟨hs,hz⟩,hk⟩:=hB;refine wp_region_any hm (XK (loud:=t.louds) (soft:=soft) (H:=H) _ (YL w) _ _ _ ⟨⟨w.drawn+1,#[]⟩,by simp only [gr,grow_empty];rfl⟩ ?_);have:=Xx (md:=.any) (Q:=Q) (Region.noSelect_spec hs) t true H (YL w) (Array.replicate l.length false) a hH (λ _ v hv=>hH _ _ h0 hv) (λ j oj _ hl=>by rw [getD_replicate_false]at hl;cases hl) hk (by simpa using h);rw [hz]at this;simpa using this
end
theorem ZU{l:List SP}{w:World}(i:In (star l) w){k n:Nat}{cs:Array Value}{t:TypeId}(e:l[k]?=some (Zd n cs t)):Zh w n cs:=by
 obtain⟨h,s,hw⟩:=i.ex;obtain⟨h1,p,s1⟩:=s.get e;exact⟨t,(hw.sub s1).get _ _ p⟩
theorem ZcU{l l':List SP}{v:World}(h:YT (star (l++l')) v):YT (star l) v:=by
 obtain⟨x,rfl⟩:=h;obtain⟨hh,s,hw⟩:=x.h.ex;obtain⟨h1,h2,a,b,c,d,e⟩:=star.app s;exact YT.of ⟨h1,a,hw.sub c⟩
theorem zn{V:VD}{st bb:Nat}{sb:ZO}{txg keep:Nat}{meta_:Bool}{W w:World}{h:Hl}{K:KS}{c N d bcap:Nat}{bad:Option Addr}{born:List (List Value)}{F:Nat->Nat->ByteArray}{ms:List MD}{es:List Nat}{x0 x3 x4 x7 x10 x11:SP}(ok:Qu V sb K (c-1) N F ms)(hc:1<=c)(hb:c<=1000000000)
  (B:Bt W h [x0,Zd st (Qs V bb txg keep meta_ (Jk d)) 169,Zd d #[.int .i64 (0:Nat),.slice bad (0+1) bcap] 268,x3,x4,ZE V N F,x7,X9 sb,ZV bb sb V.secs ms es,x10,x11,Zw 50 12 bad (0+1) bcap born] w):Zg W h (Qe V st bb sb txg keep meta_ K (c-1)) w :=
 (Bt.shut_st (fx:=0) ok ⟨rfl,by omega⟩ ((((((B.front (i:=8) rfl).front (i:=8) rfl).front (i:=7) rfl).front (i:=11) rfl).front (i:=6) rfl).front (i:=6) rfl)).fin_at 0 rfl
end Go.Proofs.YtlfjdjndhcmliaaGreatDoor
