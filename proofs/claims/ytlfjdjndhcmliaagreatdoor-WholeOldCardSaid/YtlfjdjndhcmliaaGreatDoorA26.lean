/- WholeOld, part 26. -/
import Derived.Test.YtlfjdjndhcmliaaGreatDoorA24
import Derived.Test.YtlfjdjndhcmliaaGreatDoorA25
import Derived.Test.YtlfjdjndhcmliaaGreatDoorA23
set_option maxRecDepth 100000
set_option maxHeartbeats 4000000
set_option linter.all false
namespace Go.Proofs.YtlfjdjndhcmliaaGreatDoor
open Go.RowKit Go.Sort
theorem ZeC(l:List Run)(i:Nat):(runC l).take i=runC (l.take i):=by simp [runC,List.map_take]
theorem Vh(l:List Run)(i:Nat):(runC l).drop i=runC (l.drop i):=by simp [runC,List.map_drop]
theorem Zfx{b:Nat}{x y:Value}{c:Nat}(W:World)[k:Zh W b #[x,y]](hc:c=1){xs:List (List Value)}(hx:xs=[[x,y]]:=by rfl):Zy 2 (some ⟨b,0,none⟩) 1 c xs W:=by
 subst hx;refine⟨rfl,λ k x' hx=>?_⟩;cases k with
 |zero =>
  obtain rfl:[x,y]=x':=by simpa using hx
  refine⟨b,0,rfl,Zh.old (cs:=#[x,y]) ii,λ j v hj=>?_⟩;rw [YO];simpa using hj
 |succ k=>simp at hx
theorem kB{α:Type _}:∀ {l:List α} {i:Nat} {p:α},l[i]?=some p->l.Perm (p::l.eraseIdx i)
 | [],_,_,e=>by simp at e
 |a::l,0,p,e=>by
  obtain rfl:a=p:=by simpa using e
  exact List.Perm.refl _
 |a::l,i+1,p,e=>(List.Perm.cons a (kB (l:=l) (by simpa using e))).trans (List.Perm.swap ..)
theorem Bt.front{W w:World}{h:Hl}{l:List SP}{i:Nat}{p:SP}(B:Bt W h l w)(e:l[i]?=some p):Bt W h (p::l.eraseIdx i) w:=B.perm (kB e)
def JQ(ad:Option Addr)(i cap z:Nat):Option Addr:=if cap=i then ad else ad.map λ a=>a.add (i*z)
theorem Zy.rest{z:Nat}{ad:Option Addr}{n cap:Nat}{xs:List (List Value)}{W:World}(r:Zy z ad n cap xs W)(i c:Nat)(hc:n<=cap):Zy z (JQ ad i cap z) (n-i) c (xs.drop i) W:=⟨by rw [List.length_drop,r.len],λ k x hx=>by
 rw [List.getElem?_drop]at hx;obtain⟨b,o,rfl,h1,h2⟩:=r.cells (i+k) x hx;have hlt:=(List.getElem?_eq_some_iff.1 hx).1;rw [r.len]at hlt;refine⟨b,o+i*z,by unfold JQ;rw [if_neg (by omega)];simp [Addr.add],h1,λ j v hj=>?_⟩;have:=h2 j v hj;rw [show o+i*z+k*z+j=o+(i+k)*z+j by rw [Nat.add_mul];omega]
 exact this⟩
theorem Vj(mb z:Nat)(l:List Run)(at_ n:Nat)(h1:1<=n)(h2:at_+n<=z)(hf:∀ r,l[Z3 l at_]?=some r->at_+n<=r.1):Tq 134 #[.pointer (some ⟨mb,0,none⟩),.int .i64 at_,.int .i64 n] (KC mb z l) λ v q=>v=.int .i64 0/\q=KC mb z (QK (yP l at_ n)):=by
 refine Tq.of λ W h B0=>?_
 haveI:YD mb z l W:=⟨ii⟩
 obtain⟨⟨ok,hz⟩,B1⟩:=B0.pure;obtain⟨ad,B1⟩:=B1.ex;obtain⟨k,B1⟩:=B1.ex;obtain⟨cap,B1⟩:=B1.ex;have B:=B1.flat;clear B1 B0;simp only [List.append_nil]at B;have HM:∀ w,[YD mb z l w]->Fn 187 #[.pointer (some ⟨mb,0,none⟩),.int .i64 at_,.int .i64 n] w (.bool true):=λ w _=>Zdp mb z l w at_ n h1 h2
 have HF:∀ w,[YD mb z l w]->Fn 188 #[.pointer (some ⟨mb,0,none⟩),.int .i64 at_] w (.int .i64 (Z3 l at_:Nat)):=λ w _=>kI mb z l w at_ (by omega)
 obtain⟨hn,hcap,R⟩:k=l.length/\k<=cap/\Zy 2 ad k cap (runC l) W:=by
  obtain⟨h0,p,hw⟩:=B.mem (i:=1) rfl;exact⟨by rw [<-p.1,QD],p.cap,p.rd W⟩
 subst hn;have hlen:=JY (a:=0) ok (by simp);obtain⟨i,hi⟩:∃ i,i=Z3 l at_:=⟨_,rfl⟩
 have hil:i<=l.length:=by rw [hi];exact qV l at_
 rw [<-hi]at HF hf;obtain⟨hok,hin,hln⟩:=Zc4 ok (by omega) h2 (by rw [<-hi];exact hf);have hcat:runC (l.take i)++runC [(at_,n)]++runC (l.drop i)=runC (yP l at_ n):=by rw [hi];simp [runC,yP]
 obtain⟨P,hP⟩:∃ P,P=yP l at_ n:=⟨_,rfl⟩
 rw [<-hP]at hok hin hln hcat ⊢;have Hln:=Lib.hid hln;have Hcat:=Lib.hid hcat;clear hi hP hcat hln hin
 have had:(ad=none/\l.length=0/\cap=0)\/∃ g,ad=some ⟨g,0,none⟩:=by
  obtain⟨h0,p,hw⟩:=B.mem (i:=1) rfl;rcases p.2.2 with h|⟨g,e,_⟩
  ·exact .inl h
  ·exact .inr ⟨g,e⟩
 have hgo:(∃ r g,l[i]?=some r/\at_+n<=r.1/\r.1+r.2<=z/\ad=some ⟨g,0,none⟩)\/(ad=none/\l=[]/\cap=0/\i=0)\/(∃ g,ad=some ⟨g,0,none⟩/\cap=l.length/\i=l.length)\/(∃ g,ad=some ⟨g,0,none⟩/\cap≠l.length/\i=l.length):=by
  rcases Nat.lt_or_ge i l.length with hlt|hge
  ·obtain⟨r,hr⟩:∃ r,l[i]?=some r:=⟨_,List.getElem?_eq_getElem hlt⟩
   rcases had with ⟨_,h0,_⟩|⟨g,hg⟩
   ·omega
   ·exact .inl ⟨r,g,hr,hf r hr,(ok.pos r (List.mem_of_getElem? hr)).2,hg⟩
  ·rcases had with ⟨h1,h0,h2⟩|⟨g,hg⟩
   ·exact .inr (.inl ⟨h1,List.length_eq_zero_iff.1 h0,h2,by omega⟩)
   ·by_cases hc:cap=l.length
    ·exact .inr (.inr (.inl ⟨g,hg,hc,by omega⟩))
    ·exact .inr (.inr (.inr ⟨g,hg,hc,by omega⟩))
 clear hf had;have K1:=Lib.hid (show i+1+(l.length-i)=P.length by have:=Hln.out;omega)
 go_in
 rcases hgo with ⟨r,g0,hr,hfr,hp,rfl⟩|⟨rfl,rfl,rfl,rfl⟩|⟨g0,rfl,rfl,rfl⟩|⟨g0,rfl,hc,rfl⟩
 case' inl =>
  have hlt:=(List.getElem?_eq_some_iff.1 hr).1;obtain⟨b,off,e,hb,hcl⟩:=R.cells i _ (QA hr);cases e;have v0:=hcl 0 _ rfl;rw [Nat.add_zero,Nat.zero_add]at v0;have hlt':¬ (r.1:Int)<(at_:Int)+n:=by omega
  have K0:∀ w,Zy 2 (some ⟨g0,0,none⟩) l.length cap (runC l) w->Zy 2 (some ⟨g0,0,none⟩) i i ((runC l).take i) w:=λ w r=>r.takeR i i hil
  have K2:∀ w,Zy 2 (some ⟨g0,0,none⟩) l.length cap (runC l) w->Zy 2 (some ⟨g0,i*2,none⟩) (l.length-i) (cap-i) ((runC l).drop i) w:=λ w r=>by have:=r.dropR i (cap-i) hil;rwa [Nat.zero_add]at this
  clear hcl hr
 case' inr.inl =>
  have K0:∀ w,Zy 2 none ([]:List Run).length 0 (runC []) w->Zy 2 none 0 0 ((runC []).take 0) w:=λ w r=>r.takeR 0 0 hil
  have K2:∀ w,Zy 2 none ([]:List Run).length 0 (runC []) w->Zy 2 none (([]:List Run).length-0) 0 ((runC []).drop 0) w:=λ w r=>r.rest 0 0 (Nat.le_refl _)
 case' inr.inr.inl =>
  have K0:∀ w,Zy 2 (some ⟨g0,0,none⟩) l.length l.length (runC l) w->Zy 2 (some ⟨g0,0,none⟩) l.length l.length ((runC l).take l.length) w:=λ w r=>r.takeR _ _ hil
  have K2:∀ w,Zy 2 (some ⟨g0,0,none⟩) l.length l.length (runC l) w->Zy 2 (some ⟨g0,0,none⟩) (l.length-l.length) 0 ((runC l).drop l.length) w:=λ w r=>⟨by rw [List.length_drop,QD],λ k x hx=>by rw [List.drop_eq_nil_of_le (by rw [QD];omega)]at hx;simp at hx⟩
 case' inr.inr.inr =>
  have K0:∀ w,Zy 2 (some ⟨g0,0,none⟩) l.length cap (runC l) w->Zy 2 (some ⟨g0,0,none⟩) l.length l.length ((runC l).take l.length) w:=λ w r=>r.takeR _ _ hil
  have K2:∀ w,Zy 2 (some ⟨g0,0,none⟩) l.length cap (runC l) w->Zy 2 (some ⟨g0,l.length*2,none⟩) (l.length-l.length) (cap-l.length) ((runC l).drop l.length) w:=λ w r=>by have:=r.dropR l.length (cap-l.length) hil;rwa [Nat.zero_add]at this
 all_goals
  have HK0:=Lib.hid K0;have HK2:=Lib.hid K2;clear K0 K2;go_wp2_with(with_reducible refine Fn.go λ g=>?_);refine plZ (.q [0,1,2,3,4,5,6,7,8,9,10,12,13,14,15,16,17] (.g 11 (.g 18 (.g 19 (.g 20 (.q [21,22] (.x [23] .d))))))) ?_;simp only [Zk.run,pick,gZ,gS,gA,gN]
  (repeat go_big_quiet_step (exact qZ));refine nZ ?_
  rintro w1 hw1;have B1:=Ze hw1;go_wp2_with fail;dsimp only [Nx];refine⟨by obtain⟨g,rfl⟩:=hw1;exact⟨_,ZK _ _ _⟩,?_⟩;clear hw1;rintro w2 hw2;have B2:=Ze hw2;go_wp2_with fail;dsimp only [Nx];refine⟨by obtain⟨g,rfl⟩:=hw2;exact⟨_,ZK _ _ _⟩,?_⟩;clear hw2;rintro w3 hw3;have B3:=Ze hw3;go_wp2_with fail;have r0:=HK0.out w3 (by obtain⟨h0,p,hw⟩:=B3.mem (i:=3) rfl;exact p.rd w3);have r2:=HK2.out w3 (by obtain⟨h0,p,hw⟩:=B3.mem (i:=3) rfl;exact p.rd w3);rw [ZeC]at r0;rw [Vh]at r2;have rB:Zy 2 (some ⟨w1.heap.size,0,none⟩) 1 1 (runC [(at_,n)]) w3:=Zfx _ rfl;refine(ZcH w2.heap.size _ _ _ _ _ _ _ _ _ _ _ _ w3 (r0:=r0) (r1:=rB) (r2:=r2) (by simp [go_sem]) (by simp [go_sem]) (by simp [go_sem]) (Kk _) (Kk _) (Kk _) (KW _) (KW _) (KW _) (by omega) (by omega)).mono ?_;rintro e w4 ⟨g,cap2,rfl,o⟩;rw [Hcat.out,K1.out]at o;rw [K1.out];have B4:=B3.cls o.grw;haveI R4:=ZC.rd o (QD _) (Kk _);dsimp only;go_wp2_with fail;dsimp only [Nx];refine⟨by obtain⟨g1,rfl⟩:=hw3;obtain⟨g2,e⟩:=o.grw;exact⟨_,by rw [e,ZW]⟩,?_⟩;clear hw3 o r0 r2 rB;rintro w5 hw5;have B5:=B4.cls hw5;haveI R5:Zy 2 (some ⟨g,0,none⟩) P.length cap2 (runC P) w5:=by obtain⟨gg,rfl⟩:=hw5;infer_instance
  go_wp2_with fail;have hbd:∀ q∈P,0<q.2/\q.1+q.2<=65536:=λ q hq=>by have:=hok.pos q hq;omega
  refine(ZeK (some ⟨g,0,none⟩) cap2 P w5 (by have:=Hln.out;omega) hbd).mono ?_;rintro e w6 ⟨ad6,cap6,rfl,hg6,hx6⟩;have B6:=B5.join hg6 hx6;dsimp only;go_wp2_with fail;dsimp only [Nx];refine⟨by obtain⟨g1,rfl⟩:=hw5;obtain⟨g2,e⟩:=hg6;exact⟨_,by rw [e,ZW]⟩,?_⟩;clear hw5 hg6 hx6 R4 R5
  (repeat go_big_quiet_step (exact qZ));refine nZ ?_
  rintro w7 hw7;have B7:=B6.cls hw7;clear hw7;go_wp2_with fail;dsimp only [Nx];rintro w8 hw8;have B8:Bt W h _ w8:=Ze hw8;clear hw8;go_wp2_with fail;go_ret
  (first|apply Zv|apply Zu)
  exact⟨⟨rfl,rfl⟩,(((B8.front (i:=3) rfl).app [_,_]).head λ h s=>⟨⟨(ZaB hok).1,hz⟩,_,_,_,s⟩).fin_at 0 rfl⟩
theorem qU{z:Nat}{ad:Option Addr}{n cap:Nat}{xs:List (List Value)}{W w:World}(r:Zy z ad n cap xs W)(c:YL W w):Zy z ad n cap xs w:=by
 obtain⟨g,rfl⟩:=c;infer_instance
def Zi7:Option Nat->Int
 |some a=>a
 |none=>-1
section
variable(mb z:Nat)(l:List Run)(W:World)[D:YD mb z l W]
include D in
theorem Zlr:∃ ad n cap,W.cell? ⟨mb,1,none⟩=some (.slice ad n cap)/\n=l.length/\n<=cap/\Zy 2 ad n cap (runC l) W/\((ad=none/\n=0/\cap=0)\/∃ g,ad=some ⟨g,0,none⟩):=by
 obtain⟨h,⟨⟨ok,hz⟩,ad,n,cap,s⟩,hw⟩:=D.i.ex;obtain⟨h1,p1,s1⟩:=s.get (i:=0) rfl;obtain⟨h2,p2,s2⟩:=s.get (i:=1) rfl;haveI:=hw.sub s1;haveI:=hw.sub s2;refine⟨ad,n,cap,Has.cell p1,by rw [<-p2.1,QD],p2.cap,p2.rd W,?_⟩;rcases p2.2.2 with h|⟨g,e,_⟩
 ·exact .inl h
 ·exact .inr ⟨g,e⟩
include D
theorem Zc5(n from_:Nat)(hn:1<=n/\n<=65536)(hf:from_<=z):Fn 302 #[.pointer (some ⟨mb,0,none⟩),.int .i64 n,.int .i64 from_] W (.int .i64 (Zi7 (Up n z l from_))):=by
 refine⟨?_⟩;obtain⟨ok,hz,ho,_,_,_,c0,h9⟩:=YF mb z l W;clear h9;obtain⟨ad,k,cap,c1,hk,hkc,R,had⟩:=Zlr mb z l W;have HF:∀ w,[YD mb z l w]->Fn 188 #[.pointer (some ⟨mb,0,none⟩),.int .i64 from_] w (.int .i64 (Z3 l from_:Nat)):=λ w _=>kI mb z l w from_ (by omega)
 have hfl:=qV l from_;obtain⟨f,hfe⟩:∃ f,f=Z3 l from_:=⟨_,rfl⟩
 rw [<-hfe]at HF hfl;obtain⟨L,hL⟩:∃ L,L=l.drop f:=⟨_,rfl⟩
 have hp:∀ r∈L,0<r.2/\r.1+r.2<=z:=λ r hr=>ok.pos r (List.mem_of_mem_drop (hL▸hr))
 have hlen:L.length=l.length-f:=by rw [hL,List.length_drop]
 have HE:=Lib.hid (show Up n z l from_=qQ n z L from_ by unfold Up;rw [<-hfe,<- hL]);rw [HE.out];subst hk;have RL:=R.rest f (cap-f) hkc;rw [Vh,<- hL]at RL;unfold JQ at RL;clear hfe hL had;have hl6:=JY (a:=0) ok (by simp);rw [<-hlen]at RL
 go_in
 go_wp2_with fail;refine plZ (.q [0,1,2,3,4,5,6,7,8,9] .d) ?_;simp only [Zk.run,pick,gZ,gS,gA,gN]
 (repeat go_big_quiet_step (exact qZ));refine nZ ?_
 rintro V1 hV;haveI:YD mb z l V1:=by obtain⟨g,e⟩:=hV;rw [e];infer_instance
 replace RL:=qU RL hV;replace c0:V1.cell? ⟨mb,0,none⟩=some (.int .i64 z):=by obtain⟨g,e⟩:=hV;rw [e,Z7];exact c0
 haveI:Yc mb V1:=by obtain⟨g,e⟩:=hV;rw [e];infer_instance
 have hB:=Xq hV;clear hV R c1 ho;rw [<-hlen];generalize (if cap=f then ad else ad.map λ x=>x.add (f*2))=a2 at RL ⊢;go_wp2_with fail
 go_loopw [7,20] (λ av i wr=>∃ k a:Nat,k<=L.length/\i=.int .i64 k/\av=.int .i64 a/\a<=z/\qQ n z L from_=qQ n z (L.drop k) a/\∃ g,wr=gr V1 g)
  (λ _ i _=>L.length-(intOf i).toNat)
 case atStart=>exact⟨0,from_,Nat.zero_le _,rfl,rfl,hf,rfl,Y1 V1⟩
 case round =>
  obtain⟨k,a,hk,rfl,rfl,ha,hfit,g,rfl⟩:=hrel
  by_cases hlt:k<L.length
  ·obtain⟨r,hr⟩:∃ r,L[k]?=some r:=⟨_,List.getElem?_eq_getElem hlt⟩
   have hpr:=hp r (List.mem_of_getElem? hr)
   have hd:L.drop k=r::L.drop (k+1):=by
    obtain⟨h1,h2⟩:=List.getElem?_eq_some_iff.1 hr;rw [<-h2];exact List.drop_eq_getElem_cons h1
   obtain⟨b,off,rfl,hb,hcl⟩:=(ii:Zy 2 a2 L.length (cap-f) (runC L) (gr V1 g)).cells k _ (QA hr);have v0:=hcl 0 _ rfl;have v1:=hcl 1 _ rfl;rw [Nat.add_zero]at v0;rw [hd,qQ]at hfit;have e5:(r.1:Int)-a<4294967296/\-4294967296<(r.1:Int)-a:=by omega
   by_cases hx:a+n<=r.1
   ·rw [if_pos hx]at hfit;rw [hfit];have e6:(n:Int)<=(r.1:Int)-a:=by omega
    clear hcl hfit hd hr hx HE HF;go_wp2_with fail;go_ret;exact ZM.mk rfl (hB.trans ((grown:Below V1.heap.size V1 _).mono hB.size))
   ·rw [if_neg hx]at hfit;have e6:¬ (n:Int)<=(r.1:Int)-a:=by omega
    have Hf:=Lib.hid hfit;clear hcl hfit hd hr hx HE HF;go_wp2_with fail;refine⟨⟨k+1,max a (r.1+r.2),hlt,by go_num,congrArg (Value.int .i64) (by unfold Kb;split<;>omega),by omega,Hf.out,_,ZK _ _ _⟩,by simp [intOf];omega⟩
  ·obtain rfl:L.length=k:=by omega
   rw [List.drop_eq_nil_of_le (Nat.le_refl _),qQ]at hfit
   by_cases hx:a+n<=z
   ·rw [if_pos hx]at hfit;have e6:(n:Int)<=(z:Int)-a:=by omega
    have Hf:=Lib.hid hfit;clear hfit hx HE HF;go_wp2_with fail;go_ret;exact ZM.mk (by rw [Hf.out];rfl) (hB.trans ((grown:Below V1.heap.size V1 _).mono hB.size))
   ·rw [if_neg hx]at hfit;have e6:¬ (n:Int)<=(z:Int)-a:=by omega
    have Hf:=Lib.hid hfit;clear hfit hx HE HF;go_wp2_with fail;go_ret;exact ZM.mk (by rw [Hf.out];rfl) (hB.trans ((grown:Below V1.heap.size V1 _).mono hB.size))
theorem ZhM(n from_:Nat)(hn:1<=n/\n<=65536)(hf:from_<=z):Fn 297 #[.pointer (some ⟨mb,0,none⟩),.int .i64 n,.int .i64 from_] W (match kJ l z n from_ with
  |some a=>.tuple #[.int .i64 a,.bool true]
  |none=>.tuple #[.int .i64 0,.bool false]):=by
 refine⟨?_⟩;obtain⟨ok,hz,ho,_,_,_,c0,h9⟩:=YF mb z l W;clear h9;have HF1:∀ w,[YD mb z l w]->Fn 302 #[.pointer (some ⟨mb,0,none⟩),.int .i64 n,.int .i64 from_] w (.int .i64 (Zi7 (Up n z l from_))):=λ w _=>Zc5 mb z l w n from_ hn hf
 have HF2:∀ w,[YD mb z l w]->Fn 302 #[.pointer (some ⟨mb,0,none⟩),.int .i64 n,.int .i64 0] w (.int .i64 (Zi7 (Up n z l 0))):=λ w _=>Zc5 mb z l w n 0 hn (Nat.zero_le _)
 unfold kJ;have hn0:¬ (n:Int)<1:=by omega
 have hf2:¬ (z:Int)<from_:=by omega
 cases h1:Up n z l from_<;>cases h2:Up n z l 0<;>rw [h1]at HF1<;>rw [h2]at HF2<;>simp only [Zi7]at HF1 HF2 ⊢<;>clear h1 h2
 all_goals
  go_in
  go_wp2_with fail;refine wp_loop_rounds 3 ?_
  repeat(rw [rounds_succ];go_wp2_with(with_reducible refine Fn.go λ g=>?_))
  go_ret2;exact ZM.mk rfl grown
end
instance Zp5:Jl 134 138 1 8:=Qj Tryz.underlying134 (by kernel_rfl) (by omega)
instance(priority:=low) Zms(b:Nat)(x:Value)(W:World)[k:Zh W b #[x]]:XP b [x] W:=⟨Zh.old (cs:=#[x]) k,λ j v e=>by rw [YO W b j #[x]];simpa using e⟩
instance(priority:=low) ZlV(b:Nat)(p:Pt)(W:World)[k:Zh W b p.cs]:XP b p.cs.toList W:=⟨Zh.old (cs:=p.cs) k,λ j v e=>by rw [YO W b j p.cs];simpa using e⟩
def Alike(ms ms':List MD):Prop:=ms'.map (λ m=>m.2)=ms.map λ m=>m.2
theorem Alike.get{ms ms':List MD}(a:Alike ms ms'){g:Nat}{m':MD}(h:ms'[g]?=some m'):∃ m:MD,ms[g]?=some m/\m'.2=m.2:=by
 have e:=congrArg (λ l:List (Nat × List Run)=>l[g]?) a;simp only [List.getElem?_map,h,Option.map_some]at e;cases hm:ms[g]? with
 |none=>rw [hm]at e;cases e
 |some m=>rw [hm]at e;exact⟨m,rfl,by simpa using e⟩
theorem Alike.symm{ms ms':List MD}(a:Alike ms ms'):Alike ms' ms:=Eq.symm a
theorem Alike.len{ms ms':List MD}(a:Alike ms ms'):ms'.length=ms.length:=by simpa using congrArg List.length a
theorem Alike.used{ms ms':List MD}(a:Alike ms ms')(g u:Nat):YX ms' g u↔YX ms g u:=by
 constructor
 ·rintro⟨m',h,hu⟩;obtain⟨m,hm,e⟩:=a.get h;exact⟨m,hm,by rw [<-e];exact hu⟩
 ·rintro⟨m',h,hu⟩;obtain⟨m,hm,e⟩:=a.symm.get h;exact⟨m,hm,by rw [<-e];exact hu⟩
theorem zS.alike{s:ZO}{secs:Int}{ms ms':List MD}{es:List Nat}(k:zS s secs ms es)(a:Alike ms ms'):zS s secs ms' es :=
 ⟨k.good,a.len.trans k.len,k.elen,λ g m h=>by
  obtain⟨m0,h0,e⟩:=a.get h;rw [e];exact k.size g m0 h0,λ g e m h1 h2=>by
  obtain⟨m0,h0,e2⟩:=a.get h2
  rw [e2];exact k.ends g e m0 h1 h0⟩
theorem star.join{p:SP}{L l:List SP}{h:Hl}(s:star (p::star L::l) h):star (star (L++[p])::l) h:=by
 have s1:star (star L::p::l) h:=s.perm (List.Perm.swap ..);have s2:=s1.flat;have s3:star ((L++[p])++l) h:=by simpa using s2
 exact s3.app
theorem qG(ms:List MD)(m:MD):XJ (ms++[m])=XJ ms++[KC m.1 m.2.1 m.2.2]:=by simp [XJ]
theorem ja(ms:List MD)(m:MD):QC (ms++[m])=QC ms++[[.pointer (some ⟨m.1,0,none⟩)]]:=by simp [QC]
section
variable(bb:Nat)(s:ZO)(secs:Int)(ms:List MD)(es:List Nat)(W:World)[D:YK bb s secs ms es W]
include D
theorem qc:Calls Tryz.prog 22 #[.pointer (some ⟨bb,0,none⟩)] W λ e w'=>∃ bb' ms',e=.returned (.pointer (some ⟨bb',0,none⟩))/\Alike ms ms'/\zP (ZV bb' s secs ms' es) W w':=by
 obtain⟨ok,ho,hm,mad,mcap,ead,ecap,c0,c1,c2,c3,R,RE,h0⟩:=book_facts bb s secs ms es W;have hn:ms.length<=4:=by rw [ok.len];exact ok.good.2.1
 have CL:∀ w,Zy 1 ead es.length ecap (Y0 es) w->_:=λ w (_:Zy 1 ead es.length ecap (Y0 es) w)=>Zoe ead es.length ecap (Y0 es) w (by rw [ok.elen];exact Nat.le_trans ok.good.2.1 (by omega)) (ZbM es) (Zhw es) h0
 have R0:=Lib.hid R
 go_in
 go_wp2_with fail;refine plZ (.q [0,1,2,3,4,5,6,7] (.g 8 (.q [9] (.g 10 (.q [11] .d))))) ?_;simp only [Zk.run,pick,gZ,gS,gA,gN]
 (repeat go_big_quiet_step (exact qZ));refine nZ ?_
 rintro w1 ⟨g1,rfl⟩;go_wp2_with fail;refine(CL _ ii).mono ?_;rintro e w2 ⟨ad',cap',rfl,o,_⟩;obtain⟨hp,hw,hs,hob⟩:=o.slP (Zba es) (ZbM es);have B:Bt W (λ _=>none) [] (gr W g1):=by have:=Bt.zero W;infer_instance
 have B2:=B.join o.grw ⟨hp,hs,hw,hob⟩;dsimp only;go_wp2_with fail;dsimp only [Nx];refine⟨by obtain⟨g,rfl⟩:=o.grw;exact⟨_,ZW ..⟩,?_⟩;clear o hw hs hob
 (repeat go_big_quiet_step (exact qZ));refine nZ ?_
 rintro w3 hw3;have B3:=Ze hw3;go_wp2_with fail;dsimp only [Nx];refine⟨by obtain⟨g,rfl⟩:=hw3;exact⟨_,ZK _ _ _⟩,?_⟩;clear hw3
 (repeat go_big_quiet_step (exact qZ));refine nZ ?_
 rintro w4 hw4;have B4:=Ze hw4;clear hw4;have hg:=B4.gr_of;haveI:YK bb s secs ms es w4:=by obtain⟨g,e⟩:=hg;rw [e];infer_instance
 replace c2:w4.cell? ⟨bb,2,none⟩=some (.slice mad ms.length mcap):=by obtain⟨g,e⟩:=hg;rw [e,Z7];exact c2
 replace R:=qU R hg;haveI:Yc bb w4:=by obtain⟨g,e⟩:=hg;rw [e];infer_instance
 obtain⟨b2,hb2⟩:∃ b2,w3.heap.size=b2:=⟨_,rfl⟩
 rw [hb2]at B4 ⊢;clear c0 c1 c3 RE h0 CL B B2 B3;have B5:=(B4.more (Zw.nil 138 1 _)).more (p:=star (XJ [])) trivial;simp only [List.cons_append,List.nil_append]at B5;clear B4;go_wp2_with fail
 go_loopw [24] (λ i wr=>∃(k:Nat)(ms':List MD)(ad2:Option Addr)(cap2:Nat),k<=ms.length/\i=.int .i64 k/\ms'.map (λ m=>m.2)=(ms.take k).map (λ m=>m.2)/\ms'.length=k/\Bt W (λ _=>none) [Zd b2 #[.slice s.ad s.len s.cap,.int .i64 secs,.slice ad2 k cap2,.slice ad' es.length cap'] 136,Zw 3 1 ad' es.length cap' (Y0 es),Zw 138 1 ad2 k cap2 (QC ms'),star (XJ ms')] wr)
  (λ i _=>ms.length-(intOf i).toNat)
 case atStart=>exact⟨0,[],none,0,Nat.zero_le _,rfl,rfl,rfl,B5⟩
 case round =>
  clear B5;obtain⟨k,ms',ad2,cap2,hk,rfl,hms,hlen,B⟩:=hrel;have hg:=B.gr_of
  by_cases hlt:k<ms.length
  ·obtain⟨m,hmk⟩:∃ m,ms[k]?=some m:=⟨_,List.getElem?_eq_getElem hlt⟩
   haveI:YD m.1 m.2.1 m.2.2 wr:=by obtain⟨g,e⟩:=hg;haveI:=hm k m hmk;rw [e];infer_instance
   have CM:=λ(w:World)(_:YD m.1 m.2.1 m.2.2 w)=>ZfF m.1 m.2.1 m.2.2 w
   obtain⟨b,off,rfl,hb,hcl⟩:=(qU R0.out hg).cells k [.pointer (some ⟨m.1,0,none⟩)] (by simp [QC,hmk]);have v0:=hcl 0 _ rfl;rw [Nat.add_zero,Nat.mul_one]at v0;have Hms:=Lib.hid hms;have Hmk:=Lib.hid hmk;have HL:=Lib.hid hlen;clear hcl hmk hms hm hlen;go_wp2_with fail;refine plZ (.q [1,2,3,4,5] (.f [0] (.g 6 (.g 7 (.x [8] (.q [9,10] (.x [11] .d))))))) ?_;simp only [Zk.run,pick,gZ,gS,gA,gN]
   (repeat go_big_quiet_step (exact qZ));refine nZ ?_
   (repeat go_big_quiet_step (exact qZ));refine nZ ?_
   rintro w1 hw1;have B1:=Ze hw1;haveI:YD m.1 m.2.1 m.2.2 w1:=by obtain⟨g,e⟩:=hw1;rw [e];infer_instance
   go_wp2_with fail;refine(CM _ ii).mono ?_;rintro e w2 ⟨mb',rfl,hg2,hn2⟩;have B2:=B1.join hg2 hn2;dsimp only;go_wp2_with fail;dsimp only [Nx];refine⟨by obtain⟨g,rfl⟩:=hw1;obtain⟨g2,rfl⟩:=hg2;exact⟨_,ZW ..⟩,?_⟩;clear hw1 hg2 hn2;rintro w3' hw3;have B3:=B2.cls hw3;go_wp2_with fail;dsimp only [Nx];refine⟨by obtain⟨g,rfl⟩:=hw3;exact⟨_,ZK _ _ _⟩,?_⟩;clear hw3;rintro w5 hw5;have B5:=Ze hw5;clear hw5;go_wp2_with(at_builtin;(with_reducible apply ZI);(·exact rfl);(·exact rfl);(·exact ii);(·exact ii);(·exact ii);(·exact rfl);(·decide);(·omega);intro gA capA wA bA;(try dsimp only at bA));dsimp only [Nx];go_frame
   (repeat go_big_quiet_step (exact qZ));refine nZ ?_
   rintro w7 hw7;have B7:=bA.cls hw7;clear hw7;go_wp2_with fail;dsimp only [Nx];rintro w8 hw8;have B8:Bt W _ _ w8:=Ze hw8;clear hw8;go_wp2_with fail;have B9:=B8.drop.front (i:=4) rfl;have B10:Bt W (λ _=>none) (star (XJ ms'++[KC mb' m.2.1 m.2.2])::_) w8:=⟨(B9.perm (List.Perm.swap ..)).t.mono λ _ s=>s.join⟩
   rw [<-qG ms' (mb',m.2)]at B10;exact⟨⟨k+1,ms'++[(mb',m.2)],some ⟨gA,0,none⟩,capA,hlt,by go_num,by rw [List.map_append,Hms.out,List.take_add_one,Hmk.out];simp,by simp [HL.out],by rw [ja];exact B10.perm (List.perm_append_singleton _ _).symm⟩,by simp [intOf];omega⟩
  ·obtain rfl:ms.length=k:=by omega
   rw [List.take_length]at hms;have Hms:=Lib.hid hms;clear hms;go_wp2_with fail;go_ret;have ok':=ok.alike Hms.out;refine⟨b2,ms',rfl,Hms.out,?_⟩;rw [<-hlen]at B;exact(((B.perm (List.Perm.cons _ (List.Perm.swap ..))).app [_,_,_,_]).head λ h s=>⟨ok',_,_,_,_,s⟩).new1
end
end Go.Proofs.YtlfjdjndhcmliaaGreatDoor
