/- WholeOld, part 29. -/
import Derived.Test.YtlfjdjndhcmliaaGreatDoorA28
set_option maxRecDepth 100000
set_option maxHeartbeats 4000000
set_option linter.all false
namespace Go.Proofs.YtlfjdjndhcmliaaGreatDoor
open Go.RowKit Go.Sort
theorem Yn{W w:World}{h:Hl}{l:List SP}{c:Code}{Q:Exit->Act->World->Prop}{a:Act}(B:Bt W h l w)(k:∀ w',Bt W h l w'->c.wp Tryz.prog Q a w'):c.wp Tryz.prog Q a w:=k w B
section
variable{V:VD}{st bb:Nat}{sb:ZO}{txg keep:Nat}{meta_:Bool}
theorem ZgL(K:KS)(c:Nat)(t:ByteArray)(lv:Nat)(hc:1<=c)(hl:lv<=3)(h0:t.size≠0)(h1:t.size%64=0)(h2:t.size<=256)(hk:keep<=1000)(hx:1<=txg/\txg<=4294967295) :
  Tq 320 #[.pointer (some ⟨st,0,none⟩),.string t,.int .i64 lv] (Qe V st bb sb txg keep meta_ K c) λ v q =>
   (∃ e:Int,e≠0/\v=.tuple #[.agg Pt.none.cs,.int .i64 e]/\q=Qe V st bb sb txg keep meta_ K (c-1))\/∃ p:Pt,v=.tuple #[.agg p.cs,.int .i64 0]/\(p.isNone=false/\p.level=lv)/\q=Qe V st bb sb txg keep meta_ (K.add p t) (c-1):=by
 refine Tq.of λ W h B0=>?_
 obtain⟨dn,N,F,ms,es,ok,B⟩:=B0.opn;simp only [StL,List.append_nil,List.cons_append,List.nil_append]at B;clear B0;haveI:Zn V F W:=⟨N,ii⟩
 obtain⟨z,hz⟩:∃ z,t.size=64*z:=⟨t.size/64,by omega⟩
 have hz4:1<=z/\z<=4:=by omega
 obtain⟨vok,_⟩:=Zo V F W;have gs:=ok.same.good vok.g;have hN:N+64<=1000000000000:=by have:=ok.bd;omega
 have HX:=λ w=>ZiH t h0 h1 h2 w
 have HV:∀ w,[Zn V F w]->Fn 69 #[V.v] w (.bool true):=λ w _=>YZ V F w
 have hsum:∀ w,Fn 122 #[.string t] w (.agg #[.int .u64 ((Yh t).a:Int),.int .u64 ((Yh t).b:Int),.int .u64 ((Yh t).c:Int),.int .u64 ((Yh t).d:Int)]):=λ w=>⟨Qx t (by omega) w⟩
 have hd:(t.size:Int)/64=z:=by omega
 have hl3:¬ (3:Int)<lv:=by omega
 have hx1:¬ (txg:Int)<1:=by omega
 have hx2:¬ (4294967295:Int)<txg:=by omega
 go_in
 go_wp2_with(with_reducible refine Fn.go λ g=>?_);refine plZ (.q [0,1,2,3,4,5,6,7,8] (.c 9 (.q [10] (.g 11 (.x [12] .d))))) ?_;simp only [Zk.run,pick,gZ,gS,gA,gN]
 (repeat go_big_quiet_step (exact qZ));refine nZ ?_
 (with_reducible apply za);(·kernel_rfl);(·rintro _ ⟨gC,rfl⟩;simp [Act.eval];exact inferInstance)
 go_frame
 (repeat go_big_quiet_step (exact qZ));refine nZ ?_
 rintro w1 hw1;have B1:Bt W h _ w1:=Ze hw1;go_wp2_with fail;dsimp only [Nx];refine⟨by obtain⟨g,rfl⟩:=hw1;exact⟨_,ZK _ _ _⟩,?_⟩;clear hw1;rintro w2 hw2;have B2:Bt W h _ w2:=Ze hw2;clear hw2;go_wp2_with fail;dsimp only [Nx];refine Z4 ?_;intro w3 B3;clear B1 B2 B;obtain⟨b8,hb8⟩:∃ b,w1.heap.size=b:=⟨_,rfl⟩
 rw [hb8]at B3 ⊢;obtain⟨b3,hb3⟩:∃ b,W.heap.size=b:=⟨_,rfl⟩
 rw [hb3]at B3 ⊢;clear hb8 hb3 HX HV hsum hd hl3 hx1 hx2;have B4:Bt W h (star [_,_,_]::Zd b8 #[.int .i64 0,.int .i64 0,.int .i64 0,.int .i64 0,.bool false,.int .i64 z,.int .i64 lv,.int .i64 txg,.int .u64 ((Yh t).a:Int),.int .u64 ((Yh t).b:Int),.int .u64 ((Yh t).c:Int),.int .u64 ((Yh t).d:Int)] 50::_::_::_::_::_::[]) w3:=(((B3.front (i:=8) rfl).front (i:=8) rfl).front (i:=6) rfl).app [_,_,_];clear B3;go_wp2_with fail;refine(Bt.call (Zfr (V:=V) (st:=st) (bb:=bb) (sb:=sb) (txg:=txg) (keep:=keep) (meta_:=meta_) dn ms es z lv hz4 hk)).mono ?_;rintro e w4 ⟨v,q,rfl,hq,B5⟩;rcases hq with ⟨sl,e,ms',es',he,rfl,hal,rfl⟩|⟨b,i,a,n,ms0,ms',es',rfl,hal,T1,rfl⟩|⟨b,i,a,n,j,u,k,ms1,ms',es',rfl,T1,T2,rfl⟩
 ·have B6:Bt W h [_,_,_,_,_,_,_,_,_] w4:=B5.flat;clear B4 B5;have hne:(e !=0)=true:=by simp [he]
  dsimp only;go_wp2_with fail
  (refine bodyPost_ret (YQ rfl _ _ _ _ rfl ii) rfl ?_)
  (first|apply Zv|apply Zu)
  exact⟨.inl ⟨e,he,rfl,rfl⟩,Zjw ok hal ii⟩
 ·have B6:Bt W h [_,_,_,_,_,_,_,_,_,_] w4:=B5.flat;clear B4 B5;have gb:ZT V.s V.secs:=vok.g
  have DT:Tq 324 #[.slice (some ⟨b,0,none⟩) 1 1,.func (.func 325) #[] #[.pointer (some ⟨b3,0,none⟩),.pointer (some ⟨b3+1,0,none⟩),.pointer (some ⟨b8,0,none⟩)]] (star [YC 45 2 b 1 [JE i a],star [Zd b3 #[.pointer (some ⟨st,0,none⟩)] 110,Zd (b3+1) #[.string t] 9,Zd st (Qs V bb txg keep meta_ dn) 169,ZE V N F]]) λ v q =>
    v=.slice (some ⟨b,0,none⟩) 1 1/\q=star [YC 45 2 b 1 [JE i a],star [Zd b3 #[.pointer (some ⟨st,0,none⟩)] 110,Zd (b3+1) #[.string t] 9,Zd st (Qs V bb txg keep meta_ dn) 169,ZE V (N+32) (putAt V.s F i a z t)]] :=
   Zgx (V:=V) (st:=st) (bb:=bb) (txg:=txg) (keep:=keep) (meta_:=meta_) b3 (b3+1) b8 b z dn t [(i,a)] N (λ k=>if k=0 then F else putAt V.s F i a z t) (by simp) hz hN (by
    intro k p hk
    match k,hk with
    |0,hk=>cases hk;exact⟨by rw [<-ok.same.may];exact T1.may (T1.pos gs hz4),rfl⟩
    |k+1,hk=>simp at hk)
  have B7:Bt W h [_,_,_,_,_,_,_] w4:=((((B6.front (i:=9) rfl).front (i:=1) rfl).front (i:=7) rfl).front (i:=8) rfl).app [_,_,_,_];have B8:Bt W h (star [_,_]::_::_::_::_::_::[]) w4:=(B7.front (i:=1) rfl).app [_,_];clear B6 B7;dsimp only;go_wp2_with fail;refine(Bt.call DT).mono ?_;rintro e w5 ⟨v,q,rfl,⟨rfl,rfl⟩,B9⟩;have B10:Bt W h (_::_::_::_::_::_::_::[]) w5:=B9.flat;have B11:Bt W h [_,_,_,_,_,_,_,_,_,_] w5:=(B10.perm (.swap ..)).flat;clear B8 B9 B10 DT;have B12:Bt W h [_,_,_,_,Zd b #[.int .i64 i,.int .i64 a] 45,_,_,_,_,_] w5:=B11.map (i:=4) rfl λ h r=>r.blk rfl
  clear B11;dsimp only;go_wp2_with((with_reducible apply Za);(·exact rfl);(·exact ii));refine Yn (W:=W) (h:=h) (l:=[_,_,Zd st (Qs V bb txg keep meta_ dn) 169,_,_,_,_,Zd b8 (ptA i a z lv txg t).cs 50,_,Ul dn c]) ii ?_;rintro w6 B13;clear B12;have hcs:(ptA i a z lv txg t).cs=(ptA i a z lv txg t).cs:=rfl;obtain⟨pp,hpp⟩:∃ pp,ptA i a z lv txg t=pp:=⟨_,rfl⟩
  rw [hpp]at B13;have Hpp:=Lib.hid hpp;clear hpp hcs;have B14:Bt W h (Ul dn c::_) w6:=B13.front (i:=9) rfl;clear B13;rcases B14.dn with ⟨rfl,hc9,B15⟩|⟨d,fx,bad,bn,bcap,born,rfl,⟨rfl,hb⟩,B15⟩
  ·clear B14;have B16:Bt W h [_,_,_,_,_,_,_,_,_] w6:=B15;clear B15;have i3:∀ x:JD (star [Zd b3 #[.pointer (some ⟨st,0,none⟩)] 110,Zd b8 pp.cs 50]),Zh x.w b3 #[.pointer (some ⟨st,0,none⟩)]:=λ x=>ZU x.h (k:=0) rfl
   have i8:∀ x:JD (star [Zd b3 #[.pointer (some ⟨st,0,none⟩)] 110,Zd b8 pp.cs 50]),Zh x.w b8 pp.cs:=λ x=>ZU x.h (k:=1) rfl
   have in0:In (star [Zd b3 #[.pointer (some ⟨st,0,none⟩)] 110,Zd b8 pp.cs 50]) w6:=by
    have BX:Bt W h (_::_) w6:=((B16.front (i:=7) rfl).front (i:=1) rfl).app [_,_];infer_instance
   haveI:Nonempty (JD (star [Zd b3 #[.pointer (some ⟨st,0,none⟩)] 110,Zd b8 pp.cs 50])):=⟨⟨w6,in0⟩⟩
   refine Kt (YT (star [Zd b3 #[.pointer (some ⟨st,0,none⟩)] 110,Zd b8 pp.cs 50])) [1,3,8] (.f [0,2,7] (.y 1 8 (.y 3 8 (.f [4,5,6] (.x [8] (.x [9] (.q [10,11] (.x [12] .d))))) (.x [3] (.q [4,5,6] (.x [9] (.q [10,11] (.x [12] .d)))))) (.x [1] (.x [3] (.q [4,5,6] (.x [9] (.q [10,11] (.x [12] .d)))))))) (Zq _) (YT.of in0) (by kernel_rfl) (by kernel_rfl) ?_;simp only [Zk.runY,pick,List.getElem?_cons_zero,List.getElem?_cons_succ,List.cons_append,List.nil_append]
   (repeat(first|((with_reducible apply Zc);(·exact rfl);(·rintro _ ⟨gq,rfl⟩;exact ii);go_frame)|go_big_quiet_step (exact qZ)));refine nZ ?_
   refine⟨?_,?_⟩
   ·rintro w7 hw7;have C1:Bt W h _ w7:=Ze hw7;clear hw7;go_wp2_with fail;refine(Bt.call (JS V st bb txg keep meta_ c hc9)).mono ?_;rintro e1 w8 ⟨v,q,rfl,⟨d,rfl,rfl⟩,C2⟩;have C2':Bt W h (_::_::_::_::_::_::_::_::_::[]) w8:=C2.front (i:=2) rfl;have C3:Bt W h [_,_,_,_,_,_,_,_,_,_] w8:=C2'.flat;clear C1 C2 C2'
    have in1:In (star [Zd b3 #[.pointer (some ⟨st,0,none⟩)] 110,Zd b8 pp.cs 50,Zd st (Qs V bb txg keep meta_ (Jk d)) 169,Zd d #[.int .i64 (0:Nat),.slice none 0 0] 268]) w8:=by
     have BX:Bt W h (_::_) w8:=((((C3.front (i:=1) rfl).front (i:=1) rfl).front (i:=8) rfl).front (i:=3) rfl).app [_,_,_,_];obtain⟨h0,p,hw⟩:=BX.mem (i:=0) rfl;exact⟨h0,p,hw⟩
    have j3:∀ x:JD (star [Zd b3 #[.pointer (some ⟨st,0,none⟩)] 110,Zd b8 pp.cs 50,Zd st (Qs V bb txg keep meta_ (Jk d)) 169,Zd d #[.int .i64 (0:Nat),.slice none 0 0] 268]),Zh x.w d #[.int .i64 (0:Nat),.slice none 0 0]:=λ x=>ZU x.h (k:=3) rfl
    haveI:Nonempty (JD (star [Zd b3 #[.pointer (some ⟨st,0,none⟩)] 110,Zd b8 pp.cs 50,Zd st (Qs V bb txg keep meta_ (Jk d)) 169,Zd d #[.int .i64 (0:Nat),.slice none 0 0] 268])):=⟨⟨w8,in1⟩⟩
    haveI:∀ w,[Zh w st (Qs V bb txg keep meta_ (Jk d))]->Fn 116 #[.pointer (some ⟨st,0,none⟩)] w (Jk d):=λ w _=>Jw V st bb txg keep meta_ d w
    dsimp only;go_wp2_with fail;dsimp only [Nx];refine⟨YT (star [Zd b3 #[.pointer (some ⟨st,0,none⟩)] 110,Zd b8 pp.cs 50,Zd st (Qs V bb txg keep meta_ (Jk d)) 169,Zd d #[.int .i64 (0:Nat),.slice none 0 0] 268]),⟨Zq _,λ v hv=>ZcU (l:=[Zd b3 #[.pointer (some ⟨st,0,none⟩)] 110,Zd b8 pp.cs 50]) (l':=[Zd st (Qs V bb txg keep meta_ (Jk d)) 169,Zd d #[.int .i64 (0:Nat),.slice none 0 0] 268]) hv⟩,λ _=>YT.of in1,?_⟩;refine⟨?_,?_⟩
    ·rintro w9 hw9;have C4:Bt W h _ w9:=Ze hw9;have in2:In (star [Zd b3 #[.pointer (some ⟨st,0,none⟩)] 110,Zd b8 pp.cs 50,Zd st (Qs V bb txg keep meta_ (Jk d)) 169,Zd d #[.int .i64 (0:Nat),.slice none 0 0] 268]) w9:=by obtain⟨g,rfl⟩:=hw9;infer_instance
     clear hw9;go_wp2_with(with_reducible refine Fn.go λ g=>?_);dsimp only [Nx];refine⟨_,⟨Zq _,λ v hv=>hv⟩,λ _=>YT.of ii,?_⟩
     (try go_frame)
     (repeat go_big_quiet_step (exact qZ));refine nZ ?_
     rintro w10 hw10;have C5:Bt W h _ w10:=Ze hw10;have in3:In (star [Zd b3 #[.pointer (some ⟨st,0,none⟩)] 110,Zd b8 pp.cs 50,Zd st (Qs V bb txg keep meta_ (Jk d)) 169,Zd d #[.int .i64 (0:Nat),.slice none 0 0] 268]) w10:=by obtain⟨g,rfl⟩:=hw10;infer_instance
     clear hw10;go_wp2_with((with_reducible apply YS);(·exact rfl));dsimp only [Nx];refine⟨_,⟨Zq _,λ v hv=>hv⟩,λ _=>YT.of ii,?_⟩;rintro w11 hw11;have C6:=(Ze hw11:Bt W h [_,_,_,_,_,_,_,_,_,_,_] w11).more (Zw.nil 50 12 _);simp only [List.cons_append,List.nil_append]at C6;clear hw11;go_wp2_with(at_builtin;(with_reducible apply ZI);(·exact rfl);(·exact rfl);(·exact ii);(·exact ii);(·exact ii);(·exact rfl);(·decide);(·omega);intro gA capA wA bA;(try dsimp only at bA));dsimp only [Nx];refine⟨_,⟨Zq _,λ v hv=>hv⟩,λ h=>absurd h (by decide),?_⟩
     (try go_frame)
     (repeat go_big_quiet_step (exact qZ));refine nZ ?_
     rintro w12 hw12;have C7:=bA.cls hw12;clear hw12;go_wp2_with fail;dsimp only [Nx];refine⟨_,⟨Zq _,λ v hv=>hv⟩,λ h=>absurd h (by decide),?_⟩;rintro w13 hw13;have C8:Bt W h _ w13:=Ze hw13;clear hw13;go_wp2_with((with_reducible apply Za);(·exact rfl);(·exact ii))
     (refine bodyPost_ret (YQ rfl _ _ _ _ rfl ii) rfl ?_)
     (first|apply Zv|apply Zu)
     exact⟨.inr ⟨pp,rfl,⟨by rw [<-Hpp.out];exact Xs (by simp only [ptA];omega),by rw [<-Hpp.out];rfl⟩,rfl⟩,zn (by rw [<-Hpp.out];exact⟨ok.same,(VH vok.g ok.same ((ok.kp hc).more λ g u h=>(hal.used g u).2 h) T1 hz4 hz hl hx).us,by have:=ok.bd;omega,QH vok.g ok.same T1 hz4 ok.ring,λ e=>by have:=ok.ro e;omega⟩) hc hc9 ii⟩
    ·rintro w9 hw9;have C4:Bt W h _ w9:=Ze hw9;have in2:In (star [Zd b3 #[.pointer (some ⟨st,0,none⟩)] 110,Zd b8 pp.cs 50,Zd st (Qs V bb txg keep meta_ (Jk d)) 169,Zd d #[.int .i64 (0:Nat),.slice none 0 0] 268]) w9:=by obtain⟨g,rfl⟩:=hw9;infer_instance
     clear hw9;go_wp2_with((with_reducible apply YS);(·exact rfl));dsimp only [Nx];refine⟨_,⟨Zq _,λ v hv=>hv⟩,λ _=>YT.of ii,?_⟩;rintro w10 hw10;have C5:Bt W h _ w10:=Ze hw10;have in3:In (star [Zd b3 #[.pointer (some ⟨st,0,none⟩)] 110,Zd b8 pp.cs 50,Zd st (Qs V bb txg keep meta_ (Jk d)) 169,Zd d #[.int .i64 (0:Nat),.slice none 0 0] 268]) w10:=by obtain⟨g,rfl⟩:=hw10;infer_instance
     clear hw10;go_wp2_with(with_reducible refine Fn.go λ g=>?_);dsimp only [Nx];refine⟨_,⟨Zq _,λ v hv=>hv⟩,λ _=>YT.of ii,?_⟩
     (try go_frame)
     (repeat go_big_quiet_step (exact qZ));refine nZ ?_
     rintro w11 hw11;have C6:=(Ze hw11:Bt W h [_,_,_,_,_,_,_,_,_,_,_] w11).more (Zw.nil 50 12 _);simp only [List.cons_append,List.nil_append]at C6;clear hw11;go_wp2_with(at_builtin;(with_reducible apply ZI);(·exact rfl);(·exact rfl);(·exact ii);(·exact ii);(·exact ii);(·exact rfl);(·decide);(·omega);intro gA capA wA bA;(try dsimp only at bA));dsimp only [Nx];refine⟨_,⟨Zq _,λ v hv=>hv⟩,λ h=>absurd h (by decide),?_⟩
     (try go_frame)
     (repeat go_big_quiet_step (exact qZ));refine nZ ?_
     rintro w12 hw12;have C7:=bA.cls hw12;clear hw12;go_wp2_with fail;dsimp only [Nx];refine⟨_,⟨Zq _,λ v hv=>hv⟩,λ h=>absurd h (by decide),?_⟩;rintro w13 hw13;have C8:Bt W h _ w13:=Ze hw13;clear hw13;go_wp2_with((with_reducible apply Za);(·exact rfl);(·exact ii))
     (refine bodyPost_ret (YQ rfl _ _ _ _ rfl ii) rfl ?_)
     (first|apply Zv|apply Zu)
     exact⟨.inr ⟨pp,rfl,⟨by rw [<-Hpp.out];exact Xs (by simp only [ptA];omega),by rw [<-Hpp.out];rfl⟩,rfl⟩,zn (by rw [<-Hpp.out];exact⟨ok.same,(VH vok.g ok.same ((ok.kp hc).more λ g u h=>(hal.used g u).2 h) T1 hz4 hz hl hx).us,by have:=ok.bd;omega,QH vok.g ok.same T1 hz4 ok.ring,λ e=>by have:=ok.ro e;omega⟩) hc hc9 ii⟩
   ·rintro w7 hw7;have C1:Bt W h _ w7:=Ze hw7;have in2:In (star [Zd b3 #[.pointer (some ⟨st,0,none⟩)] 110,Zd b8 pp.cs 50]) w7:=by obtain⟨g,rfl⟩:=hw7;infer_instance
    clear hw7;go_wp2_with((with_reducible apply YS);(·exact rfl));dsimp only [Nx];refine⟨_,⟨Zq _,λ v hv=>hv⟩,λ _=>YT.of ii,?_⟩;rintro w8 hw8;have C1':Bt W h _ w8:=Ze hw8;clear hw8;go_wp2_with fail;refine(Bt.call (JS V st bb txg keep meta_ c hc9)).mono ?_;rintro e1 w9 ⟨v,q,rfl,⟨d,rfl,rfl⟩,C2⟩;have C2':Bt W h (_::_::_::_::_::_::_::_::_::_::[]) w9:=C2.front (i:=3) rfl;have C3:Bt W h [_,_,_,_,_,_,_,_,_,_,_] w9:=C2'.flat;have C4:Bt W h (_::_::_::_::_::_::_::_::_::_::_::[]) w9:=C3.front (i:=2) rfl;clear C1 C1' C2 C2' C3
    have in1:In (star [Zd b3 #[.pointer (some ⟨st,0,none⟩)] 110,Zd b8 pp.cs 50]) w9:=by
     have BX:Bt W h (_::_) w9:=((C4.front (i:=9) rfl).front (i:=4) rfl).app [_,_];infer_instance
    haveI:∀ w,[Zh w st (Qs V bb txg keep meta_ (Jk d))]->Fn 116 #[.pointer (some ⟨st,0,none⟩)] w (Jk d):=λ w _=>Jw V st bb txg keep meta_ d w
    dsimp only;go_wp2_with fail;dsimp only [Nx];refine⟨_,⟨Zq _,λ v hv=>hv⟩,λ _=>YT.of ii,?_⟩;rintro w10 hw10;have C5:Bt W h _ w10:=Ze hw10;have in3:In (star [Zd b3 #[.pointer (some ⟨st,0,none⟩)] 110,Zd b8 pp.cs 50]) w10:=by obtain⟨g,rfl⟩:=hw10;infer_instance
    clear hw10;go_wp2_with(with_reducible refine Fn.go λ g=>?_);dsimp only [Nx];refine⟨_,⟨Zq _,λ v hv=>hv⟩,λ _=>YT.of ii,?_⟩
    (try go_frame)
    (repeat go_big_quiet_step (exact qZ));refine nZ ?_
    rintro w11 hw11;have C6:=(Ze hw11:Bt W h [_,_,_,_,_,_,_,_,_,_,_] w11).more (Zw.nil 50 12 _);simp only [List.cons_append,List.nil_append]at C6;clear hw11;go_wp2_with(at_builtin;(with_reducible apply ZI);(·exact rfl);(·exact rfl);(·exact ii);(·exact ii);(·exact ii);(·exact rfl);(·decide);(·omega);intro gA capA wA bA;(try dsimp only at bA));dsimp only [Nx];refine⟨_,⟨Zq _,λ v hv=>hv⟩,λ h=>absurd h (by decide),?_⟩
    (try go_frame)
    (repeat go_big_quiet_step (exact qZ));refine nZ ?_
    rintro w12 hw12;have C7:=bA.cls hw12;clear hw12;go_wp2_with fail;dsimp only [Nx];refine⟨_,⟨Zq _,λ v hv=>hv⟩,λ h=>absurd h (by decide),?_⟩;rintro w13 hw13;have C8:Bt W h _ w13:=Ze hw13;clear hw13;go_wp2_with((with_reducible apply Za);(·exact rfl);(·exact ii))
    (refine bodyPost_ret (YQ rfl _ _ _ _ rfl ii) rfl ?_)
    (first|apply Zv|apply Zu)
    exact⟨.inr ⟨pp,rfl,⟨by rw [<-Hpp.out];exact Xs (by simp only [ptA];omega),by rw [<-Hpp.out];rfl⟩,rfl⟩,zn (by rw [<-Hpp.out];exact⟨ok.same,(VH vok.g ok.same ((ok.kp hc).more λ g u h=>(hal.used g u).2 h) T1 hz4 hz hl hx).us,by have:=ok.bd;omega,QH vok.g ok.same T1 hz4 ok.ring,λ e=>by have:=ok.ro e;omega⟩) hc hc9 ii⟩
  ·have B16:Bt W h [_,_,_,_,_,_,_,_,_,_,_] w6:=B15;clear B14 B15;haveI:∀ w,[Zh w st (Qs V bb txg keep meta_ (Jk d))]->Fn 116 #[.pointer (some ⟨st,0,none⟩)] w (Jk d):=λ w _=>Jw V st bb txg keep meta_ d w
   refine plZ (.q [0,2,7] (.c 1 (.c 3 (.q [4,5,6] (.g 8 (.x [9] (.q [10,11] (.x [12] .d)))))))) ?_;simp only [Zk.run,pick,gZ,gS,gA,gN]
   (repeat(first|((with_reducible apply Zc);(·exact rfl);(·rintro _ ⟨gq,rfl⟩;exact ii);go_frame)|go_big_quiet_step (exact qZ)));refine nZ ?_
   (with_reducible apply za);(·kernel_rfl);(·rintro _ ⟨gC,rfl⟩;simp [Act.eval];exact inferInstance)
   (try go_frame)
   (with_reducible apply za);(·kernel_rfl);(·rintro _ ⟨gC,rfl⟩;simp [Act.eval];exact inferInstance)
   (try go_frame)
   (repeat go_big_quiet_step (exact qZ));refine nZ ?_
   rintro w7 hw7;have B17:Bt W h _ w7:=Ze hw7;go_wp2_with((with_reducible apply YS);(·exact rfl));dsimp only [Nx];refine⟨by obtain⟨g,rfl⟩:=hw7;exact⟨_,ZK _ _ _⟩,?_⟩;clear hw7;rintro w8 hw8;have B18:Bt W h _ w8:=Ze hw8;clear hw8;go_wp2_with(at_builtin;(with_reducible apply ZI);(·exact rfl);(·exact rfl);(·exact ii);(·exact ii);(·exact ii);(·exact rfl);(·decide);(·omega);intro gA capA wA bA;(try dsimp only at bA));dsimp only [Nx]
   (try go_frame)
   (repeat go_big_quiet_step (exact qZ));refine nZ ?_
   rintro w9 hw9;have B19:=bA.cls hw9;clear hw9;go_wp2_with fail;dsimp only [Nx];rintro w10 hw10;have B20:Bt W h _ w10:=Ze hw10;clear hw10;go_wp2_with((with_reducible apply Za);(·exact rfl);(·exact ii))
   (refine bodyPost_ret (YQ rfl _ _ _ _ rfl ii) rfl ?_)
   (first|apply Zv|apply Zu)
   exact⟨.inr ⟨pp,rfl,⟨by rw [<-Hpp.out];exact Xs (by simp only [ptA];omega),by rw [<-Hpp.out];rfl⟩,rfl⟩,Zhi (by rw [<-Hpp.out];exact⟨ok.same,(VH vok.g ok.same ((ok.kp hc).more λ g u h=>(hal.used g u).2 h) T1 hz4 hz hl hx).us,by have:=ok.bd;omega,QH vok.g ok.same T1 hz4 ok.ring,λ e=>by have:=ok.ro e;omega⟩) hc hb ii⟩
 ·have B6:Bt W h [_,_,_,_,_,_,_,_,_,_] w4:=B5.flat;clear B4 B5;have gb:ZT V.s V.secs:=vok.g
  have DT:Tq 324 #[.slice (some ⟨b,0,none⟩) 2 2,.func (.func 325) #[] #[.pointer (some ⟨b3,0,none⟩),.pointer (some ⟨b3+1,0,none⟩),.pointer (some ⟨b8,0,none⟩)]] (star [YC 45 2 b 2 [JE i a,JE j u],star [Zd b3 #[.pointer (some ⟨st,0,none⟩)] 110,Zd (b3+1) #[.string t] 9,Zd st (Qs V bb txg keep meta_ dn) 169,ZE V N F]]) λ v q =>
    v=.slice (some ⟨b,0,none⟩) 2 2/\q=star [YC 45 2 b 2 [JE i a,JE j u],star [Zd b3 #[.pointer (some ⟨st,0,none⟩)] 110,Zd (b3+1) #[.string t] 9,Zd st (Qs V bb txg keep meta_ dn) 169,ZE V (N+64) (putAt V.s (putAt V.s F i a z t) j u z t)]] :=
   Zgx (V:=V) (st:=st) (bb:=bb) (txg:=txg) (keep:=keep) (meta_:=meta_) b3 (b3+1) b8 b z dn t [(i,a),(j,u)] N (λ k=>if k=0 then F else if k=1 then putAt V.s F i a z t else putAt V.s (putAt V.s F i a z t) j u z t) (by simp) hz hN (by
    intro k p hk
    match k,hk with
    |0,hk=>cases hk;exact⟨by rw [<-ok.same.may];exact T1.may (T1.pos gs hz4),rfl⟩
    |1,hk=>cases hk;exact⟨by rw [<-ok.same.may];exact T2.may (T2.pos gs hz4),rfl⟩
    |k+2,hk=>simp at hk)
  have B7:Bt W h [_,_,_,_,_,_,_] w4:=((((B6.front (i:=9) rfl).front (i:=1) rfl).front (i:=7) rfl).front (i:=8) rfl).app [_,_,_,_];have B8:Bt W h (star [_,_]::_::_::_::_::_::[]) w4:=(B7.front (i:=1) rfl).app [_,_];clear B6 B7;dsimp only;go_wp2_with fail;refine(Bt.call DT).mono ?_;rintro e w5 ⟨v,q,rfl,⟨rfl,rfl⟩,B9⟩;have B10:Bt W h (_::_::_::_::_::_::_::[]) w5:=B9.flat;have B11:Bt W h [_,_,_,_,_,_,_,_,_,_] w5:=(B10.perm (.swap ..)).flat;clear B8 B9 B10 DT;have B12:Bt W h [_,_,_,_,Zd b #[.int .i64 i,.int .i64 a,.int .i64 j,.int .i64 u] 45,_,_,_,_,_] w5:=B11.map (i:=4) rfl λ h r=>r.blk rfl
  clear B11;dsimp only;go_wp2_with fail;refine Yn (W:=W) (h:=h) (l:=[_,_,Zd st (Qs V bb txg keep meta_ dn) 169,_,_,_,_,Zd b8 (ptB i a j u z lv txg t).cs 50,_,Ul dn c]) ii ?_;rintro w6 B13;clear B12;have hcs:(ptB i a j u z lv txg t).cs=(ptB i a j u z lv txg t).cs:=rfl;obtain⟨pp,hpp⟩:∃ pp,ptB i a j u z lv txg t=pp:=⟨_,rfl⟩
  rw [hpp]at B13;have Hpp:=Lib.hid hpp;clear hpp hcs;have B14:Bt W h (Ul dn c::_) w6:=B13.front (i:=9) rfl;clear B13;rcases B14.dn with ⟨rfl,hc9,B15⟩|⟨d,fx,bad,bn,bcap,born,rfl,⟨rfl,hb⟩,B15⟩
  ·clear B14;have B16:Bt W h [_,_,_,_,_,_,_,_,_] w6:=B15;clear B15;have i3:∀ x:JD (star [Zd b3 #[.pointer (some ⟨st,0,none⟩)] 110,Zd b8 pp.cs 50]),Zh x.w b3 #[.pointer (some ⟨st,0,none⟩)]:=λ x=>ZU x.h (k:=0) rfl
   have i8:∀ x:JD (star [Zd b3 #[.pointer (some ⟨st,0,none⟩)] 110,Zd b8 pp.cs 50]),Zh x.w b8 pp.cs:=λ x=>ZU x.h (k:=1) rfl
   have in0:In (star [Zd b3 #[.pointer (some ⟨st,0,none⟩)] 110,Zd b8 pp.cs 50]) w6:=by
    have BX:Bt W h (_::_) w6:=((B16.front (i:=7) rfl).front (i:=1) rfl).app [_,_];infer_instance
   haveI:Nonempty (JD (star [Zd b3 #[.pointer (some ⟨st,0,none⟩)] 110,Zd b8 pp.cs 50])):=⟨⟨w6,in0⟩⟩
   refine Kt (YT (star [Zd b3 #[.pointer (some ⟨st,0,none⟩)] 110,Zd b8 pp.cs 50])) [1,3,8] (.f [0,2,7] (.y 1 8 (.y 3 8 (.f [4,5,6] (.x [8] (.x [9] (.q [10,11] (.x [12] .d))))) (.x [3] (.q [4,5,6] (.x [9] (.q [10,11] (.x [12] .d)))))) (.x [1] (.x [3] (.q [4,5,6] (.x [9] (.q [10,11] (.x [12] .d)))))))) (Zq _) (YT.of in0) (by kernel_rfl) (by kernel_rfl) ?_;simp only [Zk.runY,pick,List.getElem?_cons_zero,List.getElem?_cons_succ,List.cons_append,List.nil_append]
   (repeat(first|((with_reducible apply Zc);(·exact rfl);(·rintro _ ⟨gq,rfl⟩;exact ii);go_frame)|go_big_quiet_step (exact qZ)));refine nZ ?_
   refine⟨?_,?_⟩
   ·rintro w7 hw7;have C1:Bt W h _ w7:=Ze hw7;clear hw7;go_wp2_with fail;refine(Bt.call (JS V st bb txg keep meta_ c hc9)).mono ?_;rintro e1 w8 ⟨v,q,rfl,⟨d,rfl,rfl⟩,C2⟩;have C2':Bt W h (_::_::_::_::_::_::_::_::_::[]) w8:=C2.front (i:=2) rfl;have C3:Bt W h [_,_,_,_,_,_,_,_,_,_] w8:=C2'.flat;clear C1 C2 C2'
    have in1:In (star [Zd b3 #[.pointer (some ⟨st,0,none⟩)] 110,Zd b8 pp.cs 50,Zd st (Qs V bb txg keep meta_ (Jk d)) 169,Zd d #[.int .i64 (0:Nat),.slice none 0 0] 268]) w8:=by
     have BX:Bt W h (_::_) w8:=((((C3.front (i:=1) rfl).front (i:=1) rfl).front (i:=8) rfl).front (i:=3) rfl).app [_,_,_,_];obtain⟨h0,p,hw⟩:=BX.mem (i:=0) rfl;exact⟨h0,p,hw⟩
    have j3:∀ x:JD (star [Zd b3 #[.pointer (some ⟨st,0,none⟩)] 110,Zd b8 pp.cs 50,Zd st (Qs V bb txg keep meta_ (Jk d)) 169,Zd d #[.int .i64 (0:Nat),.slice none 0 0] 268]),Zh x.w d #[.int .i64 (0:Nat),.slice none 0 0]:=λ x=>ZU x.h (k:=3) rfl
    haveI:Nonempty (JD (star [Zd b3 #[.pointer (some ⟨st,0,none⟩)] 110,Zd b8 pp.cs 50,Zd st (Qs V bb txg keep meta_ (Jk d)) 169,Zd d #[.int .i64 (0:Nat),.slice none 0 0] 268])):=⟨⟨w8,in1⟩⟩
    haveI:∀ w,[Zh w st (Qs V bb txg keep meta_ (Jk d))]->Fn 116 #[.pointer (some ⟨st,0,none⟩)] w (Jk d):=λ w _=>Jw V st bb txg keep meta_ d w
    dsimp only;go_wp2_with fail;dsimp only [Nx];refine⟨YT (star [Zd b3 #[.pointer (some ⟨st,0,none⟩)] 110,Zd b8 pp.cs 50,Zd st (Qs V bb txg keep meta_ (Jk d)) 169,Zd d #[.int .i64 (0:Nat),.slice none 0 0] 268]),⟨Zq _,λ v hv=>ZcU (l:=[Zd b3 #[.pointer (some ⟨st,0,none⟩)] 110,Zd b8 pp.cs 50]) (l':=[Zd st (Qs V bb txg keep meta_ (Jk d)) 169,Zd d #[.int .i64 (0:Nat),.slice none 0 0] 268]) hv⟩,λ _=>YT.of in1,?_⟩;refine⟨?_,?_⟩
    ·rintro w9 hw9;have C4:Bt W h _ w9:=Ze hw9;have in2:In (star [Zd b3 #[.pointer (some ⟨st,0,none⟩)] 110,Zd b8 pp.cs 50,Zd st (Qs V bb txg keep meta_ (Jk d)) 169,Zd d #[.int .i64 (0:Nat),.slice none 0 0] 268]) w9:=by obtain⟨g,rfl⟩:=hw9;infer_instance
     clear hw9;go_wp2_with(with_reducible refine Fn.go λ g=>?_);dsimp only [Nx];refine⟨_,⟨Zq _,λ v hv=>hv⟩,λ _=>YT.of ii,?_⟩
     (try go_frame)
     (repeat go_big_quiet_step (exact qZ));refine nZ ?_
     rintro w10 hw10;have C5:Bt W h _ w10:=Ze hw10;have in3:In (star [Zd b3 #[.pointer (some ⟨st,0,none⟩)] 110,Zd b8 pp.cs 50,Zd st (Qs V bb txg keep meta_ (Jk d)) 169,Zd d #[.int .i64 (0:Nat),.slice none 0 0] 268]) w10:=by obtain⟨g,rfl⟩:=hw10;infer_instance
     clear hw10;go_wp2_with((with_reducible apply YS);(·exact rfl));dsimp only [Nx];refine⟨_,⟨Zq _,λ v hv=>hv⟩,λ _=>YT.of ii,?_⟩;rintro w11 hw11;have C6:=(Ze hw11:Bt W h [_,_,_,_,_,_,_,_,_,_,_] w11).more (Zw.nil 50 12 _);simp only [List.cons_append,List.nil_append]at C6;clear hw11;go_wp2_with(at_builtin;(with_reducible apply ZI);(·exact rfl);(·exact rfl);(·exact ii);(·exact ii);(·exact ii);(·exact rfl);(·decide);(·omega);intro gA capA wA bA;(try dsimp only at bA));dsimp only [Nx];refine⟨_,⟨Zq _,λ v hv=>hv⟩,λ h=>absurd h (by decide),?_⟩
     (try go_frame)
     (repeat go_big_quiet_step (exact qZ));refine nZ ?_
     rintro w12 hw12;have C7:=bA.cls hw12;clear hw12;go_wp2_with fail;dsimp only [Nx];refine⟨_,⟨Zq _,λ v hv=>hv⟩,λ h=>absurd h (by decide),?_⟩;rintro w13 hw13;have C8:Bt W h _ w13:=Ze hw13;clear hw13;go_wp2_with((with_reducible apply Za);(·exact rfl);(·exact ii))
     (refine bodyPost_ret (YQ rfl _ _ _ _ rfl ii) rfl ?_)
     (first|apply Zv|apply Zu)
     exact⟨.inr ⟨pp,rfl,⟨by rw [<-Hpp.out];exact Xs (by simp only [ptB];omega),by rw [<-Hpp.out];rfl⟩,rfl⟩,zn (by rw [<-Hpp.out];exact⟨ok.same,(VX vok.g ok.same (ok.kp hc) T1 T2 hz4 hz hl hx).us,by have:=ok.bd;omega,QH vok.g ok.same T2 hz4 (QH vok.g ok.same T1 hz4 ok.ring),λ e=>by have:=ok.ro e;omega⟩) hc hc9 ii⟩
    ·rintro w9 hw9;have C4:Bt W h _ w9:=Ze hw9;have in2:In (star [Zd b3 #[.pointer (some ⟨st,0,none⟩)] 110,Zd b8 pp.cs 50,Zd st (Qs V bb txg keep meta_ (Jk d)) 169,Zd d #[.int .i64 (0:Nat),.slice none 0 0] 268]) w9:=by obtain⟨g,rfl⟩:=hw9;infer_instance
     clear hw9;go_wp2_with((with_reducible apply YS);(·exact rfl));dsimp only [Nx];refine⟨_,⟨Zq _,λ v hv=>hv⟩,λ _=>YT.of ii,?_⟩;rintro w10 hw10;have C5:Bt W h _ w10:=Ze hw10;have in3:In (star [Zd b3 #[.pointer (some ⟨st,0,none⟩)] 110,Zd b8 pp.cs 50,Zd st (Qs V bb txg keep meta_ (Jk d)) 169,Zd d #[.int .i64 (0:Nat),.slice none 0 0] 268]) w10:=by obtain⟨g,rfl⟩:=hw10;infer_instance
     clear hw10;go_wp2_with(with_reducible refine Fn.go λ g=>?_);dsimp only [Nx];refine⟨_,⟨Zq _,λ v hv=>hv⟩,λ _=>YT.of ii,?_⟩
     (try go_frame)
     (repeat go_big_quiet_step (exact qZ));refine nZ ?_
     rintro w11 hw11;have C6:=(Ze hw11:Bt W h [_,_,_,_,_,_,_,_,_,_,_] w11).more (Zw.nil 50 12 _);simp only [List.cons_append,List.nil_append]at C6;clear hw11;go_wp2_with(at_builtin;(with_reducible apply ZI);(·exact rfl);(·exact rfl);(·exact ii);(·exact ii);(·exact ii);(·exact rfl);(·decide);(·omega);intro gA capA wA bA;(try dsimp only at bA));dsimp only [Nx];refine⟨_,⟨Zq _,λ v hv=>hv⟩,λ h=>absurd h (by decide),?_⟩
     (try go_frame)
     (repeat go_big_quiet_step (exact qZ));refine nZ ?_
     rintro w12 hw12;have C7:=bA.cls hw12;clear hw12;go_wp2_with fail;dsimp only [Nx];refine⟨_,⟨Zq _,λ v hv=>hv⟩,λ h=>absurd h (by decide),?_⟩;rintro w13 hw13;have C8:Bt W h _ w13:=Ze hw13;clear hw13;go_wp2_with((with_reducible apply Za);(·exact rfl);(·exact ii))
     (refine bodyPost_ret (YQ rfl _ _ _ _ rfl ii) rfl ?_)
     (first|apply Zv|apply Zu)
     exact⟨.inr ⟨pp,rfl,⟨by rw [<-Hpp.out];exact Xs (by simp only [ptB];omega),by rw [<-Hpp.out];rfl⟩,rfl⟩,zn (by rw [<-Hpp.out];exact⟨ok.same,(VX vok.g ok.same (ok.kp hc) T1 T2 hz4 hz hl hx).us,by have:=ok.bd;omega,QH vok.g ok.same T2 hz4 (QH vok.g ok.same T1 hz4 ok.ring),λ e=>by have:=ok.ro e;omega⟩) hc hc9 ii⟩
   ·rintro w7 hw7;have C1:Bt W h _ w7:=Ze hw7;have in2:In (star [Zd b3 #[.pointer (some ⟨st,0,none⟩)] 110,Zd b8 pp.cs 50]) w7:=by obtain⟨g,rfl⟩:=hw7;infer_instance
    clear hw7;go_wp2_with((with_reducible apply YS);(·exact rfl));dsimp only [Nx];refine⟨_,⟨Zq _,λ v hv=>hv⟩,λ _=>YT.of ii,?_⟩;rintro w8 hw8;have C1':Bt W h _ w8:=Ze hw8;clear hw8;go_wp2_with fail;refine(Bt.call (JS V st bb txg keep meta_ c hc9)).mono ?_;rintro e1 w9 ⟨v,q,rfl,⟨d,rfl,rfl⟩,C2⟩;have C2':Bt W h (_::_::_::_::_::_::_::_::_::_::[]) w9:=C2.front (i:=3) rfl;have C3:Bt W h [_,_,_,_,_,_,_,_,_,_,_] w9:=C2'.flat;have C4:Bt W h (_::_::_::_::_::_::_::_::_::_::_::[]) w9:=C3.front (i:=2) rfl;clear C1 C1' C2 C2' C3
    have in1:In (star [Zd b3 #[.pointer (some ⟨st,0,none⟩)] 110,Zd b8 pp.cs 50]) w9:=by
     have BX:Bt W h (_::_) w9:=((C4.front (i:=9) rfl).front (i:=4) rfl).app [_,_];infer_instance
    haveI:∀ w,[Zh w st (Qs V bb txg keep meta_ (Jk d))]->Fn 116 #[.pointer (some ⟨st,0,none⟩)] w (Jk d):=λ w _=>Jw V st bb txg keep meta_ d w
    dsimp only;go_wp2_with fail;dsimp only [Nx];refine⟨_,⟨Zq _,λ v hv=>hv⟩,λ _=>YT.of ii,?_⟩;rintro w10 hw10;have C5:Bt W h _ w10:=Ze hw10;have in3:In (star [Zd b3 #[.pointer (some ⟨st,0,none⟩)] 110,Zd b8 pp.cs 50]) w10:=by obtain⟨g,rfl⟩:=hw10;infer_instance
    clear hw10;go_wp2_with(with_reducible refine Fn.go λ g=>?_);dsimp only [Nx];refine⟨_,⟨Zq _,λ v hv=>hv⟩,λ _=>YT.of ii,?_⟩
    (try go_frame)
    (repeat go_big_quiet_step (exact qZ));refine nZ ?_
    rintro w11 hw11;have C6:=(Ze hw11:Bt W h [_,_,_,_,_,_,_,_,_,_,_] w11).more (Zw.nil 50 12 _);simp only [List.cons_append,List.nil_append]at C6;clear hw11;go_wp2_with(at_builtin;(with_reducible apply ZI);(·exact rfl);(·exact rfl);(·exact ii);(·exact ii);(·exact ii);(·exact rfl);(·decide);(·omega);intro gA capA wA bA;(try dsimp only at bA));dsimp only [Nx];refine⟨_,⟨Zq _,λ v hv=>hv⟩,λ h=>absurd h (by decide),?_⟩
    (try go_frame)
    (repeat go_big_quiet_step (exact qZ));refine nZ ?_
    rintro w12 hw12;have C7:=bA.cls hw12;clear hw12;go_wp2_with fail;dsimp only [Nx];refine⟨_,⟨Zq _,λ v hv=>hv⟩,λ h=>absurd h (by decide),?_⟩;rintro w13 hw13;have C8:Bt W h _ w13:=Ze hw13;clear hw13;go_wp2_with((with_reducible apply Za);(·exact rfl);(·exact ii))
    (refine bodyPost_ret (YQ rfl _ _ _ _ rfl ii) rfl ?_)
    (first|apply Zv|apply Zu)
    exact⟨.inr ⟨pp,rfl,⟨by rw [<-Hpp.out];exact Xs (by simp only [ptB];omega),by rw [<-Hpp.out];rfl⟩,rfl⟩,zn (by rw [<-Hpp.out];exact⟨ok.same,(VX vok.g ok.same (ok.kp hc) T1 T2 hz4 hz hl hx).us,by have:=ok.bd;omega,QH vok.g ok.same T2 hz4 (QH vok.g ok.same T1 hz4 ok.ring),λ e=>by have:=ok.ro e;omega⟩) hc hc9 ii⟩
  ·have B16:Bt W h [_,_,_,_,_,_,_,_,_,_,_] w6:=B15;clear B14 B15;haveI:∀ w,[Zh w st (Qs V bb txg keep meta_ (Jk d))]->Fn 116 #[.pointer (some ⟨st,0,none⟩)] w (Jk d):=λ w _=>Jw V st bb txg keep meta_ d w
   refine plZ (.q [0,2,7] (.c 1 (.c 3 (.q [4,5,6] (.g 8 (.x [9] (.q [10,11] (.x [12] .d)))))))) ?_;simp only [Zk.run,pick,gZ,gS,gA,gN]
   (repeat(first|((with_reducible apply Zc);(·exact rfl);(·rintro _ ⟨gq,rfl⟩;exact ii);go_frame)|go_big_quiet_step (exact qZ)));refine nZ ?_
   (with_reducible apply za);(·kernel_rfl);(·rintro _ ⟨gC,rfl⟩;simp [Act.eval];exact inferInstance)
   (try go_frame)
   (with_reducible apply za);(·kernel_rfl);(·rintro _ ⟨gC,rfl⟩;simp [Act.eval];exact inferInstance)
   (try go_frame)
   (repeat go_big_quiet_step (exact qZ));refine nZ ?_
   rintro w7 hw7;have B17:Bt W h _ w7:=Ze hw7;go_wp2_with((with_reducible apply YS);(·exact rfl));dsimp only [Nx];refine⟨by obtain⟨g,rfl⟩:=hw7;exact⟨_,ZK _ _ _⟩,?_⟩;clear hw7;rintro w8 hw8;have B18:Bt W h _ w8:=Ze hw8;clear hw8;go_wp2_with(at_builtin;(with_reducible apply ZI);(·exact rfl);(·exact rfl);(·exact ii);(·exact ii);(·exact ii);(·exact rfl);(·decide);(·omega);intro gA capA wA bA;(try dsimp only at bA));dsimp only [Nx]
   (try go_frame)
   (repeat go_big_quiet_step (exact qZ));refine nZ ?_
   rintro w9 hw9;have B19:=bA.cls hw9;clear hw9;go_wp2_with fail;dsimp only [Nx];rintro w10 hw10;have B20:Bt W h _ w10:=Ze hw10;clear hw10;go_wp2_with((with_reducible apply Za);(·exact rfl);(·exact ii))
   (refine bodyPost_ret (YQ rfl _ _ _ _ rfl ii) rfl ?_)
   (first|apply Zv|apply Zu)
   exact⟨.inr ⟨pp,rfl,⟨by rw [<-Hpp.out];exact Xs (by simp only [ptB];omega),by rw [<-Hpp.out];rfl⟩,rfl⟩,Zhi (by rw [<-Hpp.out];exact⟨ok.same,(VX vok.g ok.same (ok.kp hc) T1 T2 hz4 hz hl hx).us,by have:=ok.bd;omega,QH vok.g ok.same T2 hz4 (QH vok.g ok.same T1 hz4 ok.ring),λ e=>by have:=ok.ro e;omega⟩) hc hb ii⟩
end
end Go.Proofs.YtlfjdjndhcmliaaGreatDoor
