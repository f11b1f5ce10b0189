/- WholeOld, part 39. -/
import Derived.Test.YtlfjdjndhcmliaaGreatDoorA38
import Derived.Test.YtlfjdjndhcmliaaGreatDoorA36
import Derived.Test.YtlfjdjndhcmliaaGreatDoorA35
set_option maxRecDepth 100000
set_option maxHeartbeats 4000000
set_option linter.all false
namespace Go.Proofs.YtlfjdjndhcmliaaGreatDoor
open Go.RowKit Go.Sort
theorem kK{K:KS}(hK:∀ p t,K p t->p.fit){n:Nd}{g:Nat->UInt8}(o:Ob K n g):Yv n:=by
 refine⟨o.sz.1,by have:=o.sz.2;omega,?_⟩;rcases o.tr.lv with h1|⟨_,_,t,h3⟩
 ·rw [h1];exact⟨by kernel_rfl,QX⟩
 ·exact hK _ _ h3
theorem yz{W w:World}{h:Hl}{l:List SP}{f:FuncId}{args:Array Value}{Q:Ending->World->Prop}(B:Bt W h l w)(k:∀ w',Bt W h l w'->Calls Tryz.prog f args w' Q):Calls Tryz.prog f args w Q:=k w B
def ZeW(wd:Wd):Nat->Yt
 |0=>wd.live
 |j+1=>((wd.snaps[j]?).map Prod.snd).getD wd.live
theorem qF.ts{K:KS}{txg:Nat}{live:Nd}{l:List Sn}{wd:Wd}(o:qF K txg live l wd):∀ j n,(live::l.map Sn.dir)[j]?=some n->jX K n (ZeW wd j)
 |0,n,h=>by cases h;exact o.live
 |j+1,n,h=>by
  rw [List.getElem?_cons_succ,List.getElem?_map]at h;obtain⟨x,hx,rfl⟩:=Option.map_eq_some_iff.1 h;have hl:l.length=wd.snaps.length:=Vr o.ids;have hj:j<wd.snaps.length:=by rw [<-hl];exact(List.getElem?_eq_some_iff.1 hx).1
  have hy:=List.getElem?_eq_getElem hj;have:=o.dirs j x _ hx hy;simp only [ZeW,hy,Option.map_some,Option.getD_some];exact this
theorem qF.of_ts{K K':KS}{txg:Nat}{live:Nd}{l:List Sn}{wd:Wd}(o:qF K txg live l wd)(h:∀ j n,(live::l.map Sn.dir)[j]?=some n->jX K' n (ZeW wd j)):qF K' (txg+1) live l wd:=by
 have hd:∀(k:Nat)(x:Sn)(y:Int × Yt),l[k]?=some x->wd.snaps[k]?=some y->jX K' x.dir y.2:=λ k x y hx hy=>by
  have:=h (k+1) x.dir (by rw [List.getElem?_cons_succ,List.getElem?_map,hx];rfl);simpa only [ZeW,hy,Option.map_some,Option.getD_some]using this
 refine⟨h 0 live rfl,o.ids,hd,⟨o.sn.len,o.sn.id,λ x hx=>by have:=o.sn.txg x hx;omega,λ x hx=>?_,o.sn.up,o.sn.ne⟩⟩;obtain⟨k,hk⟩:=List.mem_iff_getElem?.1 hx;exact(h (k+1) x.dir (by rw [List.getElem?_cons_succ,List.getElem?_map,hk];rfl)).ob
def PoY(V:VD)(pb txg:Nat)(root:Nd)(C:Nat)(K0:KS)(wd:Wd):SP:=λ h=>∃ K live l sa scap ra rcap ob owk ow bk sb N F ms es,(qF K txg live l wd/\yG K root (qE ⟨#[]⟩ 0 (msB live l V.ds.length))/\∀ p t,K0 p t->Held V.s V.secs F p t)/\(Qu V sb K C N F ms/\C<=1000000000)/\Zh8 bk ob owk ow/\star (yI V pb txg root live l sa scap ra rcap ob owk ow bk sb N F ms es) h
theorem PoY.s{V:VD}{pb txg:Nat}{root:Nd}{C:Nat}{K0:KS}{wd:Wd}{h:Hl}(p:PoY V pb txg root C K0 wd h):Xn V pb txg root C (λ _ _=>False) wd h:=by
 obtain⟨K,live,l,sa,scap,ra,rcap,ob,owk,ow,bk,sb,N,F,ms,es,⟨w,_,_⟩,o,pv,s⟩:=p;exact⟨K,live,l,⟨λ _ _ e=>e.elim,w⟩,sa,scap,ra,rcap,ob,owk,ow,bk,sb,N,F,ms,es,o,pv,s⟩
def SyR(V:VD)(pb txg:Nat)(C:Nat)(K0:KS)(wd:Wd)(v:Value)(q:SP):Prop :=
 (∃ e:Int,e≠0/\v=.int .i64 e/\q=star [])\/∃ n':Nd,v=.int .i64 0/\q=PoY (V.ub (txg+1) n') pb (txg+1) n' (C-70010) K0 wd
section
variable{V:VD}{pb txg:Nat}{root:Nd}{C:Nat}{K0:KS}{wd:Wd}
theorem VJ(ht:txg+1<=4294967294)(hC:70010<=C) :
  Tq 10 #[pV pb] (Xn V pb txg root C K0 wd) (SyR V pb txg C K0 wd):=by
 refine Tq.of λ W h B0=>?_
 obtain⟨K,live,l,⟨hK0,wok⟩,B1⟩:=B0.pos;have HK0:=Lib.hid hK0;clear hK0;clear B0;obtain⟨sa,scap,ra,rcap,ob,owk,ow,bk,sb,N,F,ms,es,⟨ok,hC9⟩,pv,B⟩:=B1.po;clear B1;simp only [yI,List.cons_append,List.nil_append]at B;have hl:=wok.sn.len
 have hdn:V.ds.length<=100:=by
  haveI:=Z0 (i:=4) B rfl;exact(Zo V F W).1.le
 have DN:∀ w,[Zh w pb (X7 V txg root live (.slice sa l.length scap) (.slice ra V.ds.length rcap) (.pointer ob) (.pointer owk) (.pointer ow))]->Fn 20 #[pV pb] w (.bool false):=λ w _=>j9 V pb txg root live _ _ _ _ _ w
 have DP:=Zc9 (V:=V) (pb:=pb) (txg:=txg) (root:=root) (live:=live) (ss:=.slice sa l.length scap) (sl:=.slice ra V.ds.length rcap) pv
 go_in
 go_wp2_with(with_reducible refine Fn.go λ g=>?_);refine(Bt.call DP).mono ?_;rintro e w1 ⟨v,q,rfl,rfl,B1⟩;clear B DN DP;dsimp only at B1 ⊢;go_wp2_with fail;refine plZ (.q [0,1,2,3,5,6,7,8,9] (.g 4 (.g 10 (.q [11,12] .d)))) ?_;simp only [Zk.run,pick,gZ,gS,gA,gN]
 (repeat(first|((with_reducible apply Zc);(·exact rfl);(·rintro _ ⟨gq,rfl⟩;exact ii);go_frame)|go_big_quiet_step (exact qZ)));refine nZ ?_
 rintro w2 hw2;have B2:Bt W h _ w2:=Ze hw2;haveI:=Zdm B2 (i:=3) rfl;go_wp2_with fail;refine(qc bk sb V.secs ms es _).mono ?_;rintro e w3 ⟨wb,ms',rfl,hal,hg,hn⟩;have B3:=B2.join hg hn;dsimp only;go_wp2_with fail;dsimp only [Nx];refine⟨yJ hw2 hg,?_⟩;clear hn hg hw2 B2 hal;rintro w4 hw4;have B4:Bt W h _ w4:=Ze hw4;clear B3;have r2:=Yo B4 (i:=3) rfl;haveI:=r2.1;go_wp2_with fail;refine(Zmx ra V.ds.length rcap (YU V.ds.length) w4 (by omega) (Zdx _) (Zda _) r2.2.2).mono ?_;rintro e w5 ⟨ad',cap',rfl,hO,_⟩;obtain⟨g5,rfl⟩:=hO.grw;dsimp only;go_wp2_with fail;dsimp only [Nx];refine⟨yJ hw4 ⟨_,rfl⟩,?_⟩;clear hO hw4 r2
 (repeat go_big_quiet_step (exact qZ));refine nZ ?_
 refine Z4 ?_;intro w6 B6;clear B4;go_wp2_with fail;haveI:=Z0 (i:=5) B6 rfl;refine(ZeU V F pb txg root live _ _ _ _ _ w6).mono ?_;rintro e w7 ⟨⟨v7,rfl⟩,g7,rfl⟩;have B7:Bt W h _ (gr w6 g7):=ii;clear this;dsimp only;obtain⟨t,hmt⟩:∃ t,msB live l V.ds.length=t:=⟨_,rfl⟩
 have hK:∀ {n:Nd} {g:Nat->UInt8},Ob K n g->Yv n:=λ o=>kK (λ p t hp=>(ok.kept.held p t hp).fit) o
 have OB:=ZeF (V:=V) (pb:=pb) (root:=root) (txg:=txg) (by omega) hl (by obtain⟨g,o⟩:=wok.live.ob;exact hK o) (λ x hx=>by obtain⟨g,o⟩:=wok.sn.dir x hx;exact hK o) (λ x hx=>⟨wok.sn.id x hx,by have:=wok.sn.txg x hx;omega⟩) (by omega) hC9 t hmt sa scap ra rcap ow bk sb N F ms es ok;have B7b:=Bt.oS (B7) [1,2,3,4,5,6,0];have B8:Bt W h [star (yI V pb txg root live l sa scap ra rcap (some ⟨bk,0,none⟩) none ow bk sb N F ms es),ZV wb sb V.secs ms' es] (gr w6 g7):=B7b.app [_,_,_,_,_,_];have HMT:=Lib.hid hmt;clear B7 B7b B6 hmt;go_wp2_with fail;refine(Bt.call OB (B:=B8)).mono ?_;rintro e w8 ⟨v,q,rfl,⟨n',er,K',N1,F1,ms1,es1,rfl,⟨ok1,hKK,hob⟩,rfl⟩,B9⟩;clear B8 OB;dsimp only;have Hob:=Lib.hid hob;clear hob;have B10:=B9.flat;clear B9;simp only [yI,List.cons_append,List.nil_append]at B10
 by_cases he:er=0
 ·subst he;go_wp2_with((with_reducible apply Zb);(·exact rfl);(·exact rfl);(·exact ii));have TX:∀ w,[Zh w pb (X7 V txg root live (.slice sa l.length scap) (.slice ra V.ds.length rcap) (pV bk) (.pointer none) (.pointer ow))]->Fn 26 #[pV pb] w (.int .i64 (txg+1:Nat)):=λ w _=>ZfE V pb txg root live _ _ _ _ _ w (txg+1:Nat) (by omega) (by omega) (by omega)
  refine plZ (.q [0,2] (.c 1 (.q [3] (.g 4 (.x [5] .d))))) ?_;simp only [Zk.run,pick,gZ,gS,gA,gN]
  (repeat go_big_quiet_step (exact qZ));refine nZ ?_
  (with_reducible apply za);(·kernel_rfl);(·rintro _ ⟨gC,rfl⟩;simp [Act.eval];exact inferInstance)
  (try go_frame)
  (repeat go_big_quiet_step (exact qZ));refine nZ ?_
  rintro w9 hw9;have B11:Bt W h _ w9:=Ze hw9;clear B10;go_wp2_with fail;dsimp only [Nx];refine⟨Kw hw9 _,?_⟩;clear hw9;refine Z4 ?_;intro w10 B12;clear B11;go_wp2_with((with_reducible apply Zb);(·exact rfl);(·exact rfl);(·exact ii));dsimp only [Nx];refine Z4 ?_;intro w11 B13;clear B12;go_wp2_with fail;have FL:=Ui V F1 N1 pb txg root live (.slice sa l.length scap) (.slice ra V.ds.length rcap) (pV bk) (.pointer none) (.pointer ow);have B14:=Bt.oS (B13) [2,6,0,1,3,4,5,7,8];have B15:=B14.app [_,_];clear B13 B14;refine(Bt.call FL (B:=B15)).mono ?_;rintro e w12 ⟨v12,q,rfl,⟨rfl,rfl⟩,B16⟩;clear B15;have B17:=B16.flat;clear B16;simp only [List.cons_append,List.nil_append]at B17;dsimp only
  haveI hnf:Yv n':=by
   obtain⟨g,o,_⟩:=Hob.out trivial;exact kK (λ p t hp=>(ok1.kept.held p t hp).fit) o
  have UW:=Zfb V N1 F1 (txg+1) n' (by omega) (by have:=ok1.bd;omega);go_wp2_with fail;refine plZ (.q [0,1,2,3,4] (.x [5] (.q [6,7,8,9,10] .d))) ?_;simp only [Zk.run,pick,gZ,gS,gA,gN]
  (repeat(first|((with_reducible apply Zc);(·exact rfl);(·rintro _ ⟨gq,rfl⟩;exact ii);go_frame)|go_big_quiet_step (exact qZ)));refine nZ ?_
  refine Z4 ?_;intro w13 B18;clear B17;go_wp2_with fail;refine(Bt.call UW (B:=B18)).mono ?_;rintro e w14 ⟨v14,q,rfl,⟨rfl,rfl⟩,B19⟩;clear B18 UW;dsimp only;go_wp2_with fail;dsimp only [Nx]
  (repeat go_big_quiet_step (exact qZ));refine nZ ?_
  refine Z4 ?_;intro w15 B20;clear B19;go_wp2_with fail;haveI:=Z0 (i:=1) B20 rfl;refine(ZdI V _ pb txg root live _ _ _ _ _ w15).1.mono ?_;rintro e w16 ⟨rfl,hb⟩;obtain⟨g16,rfl⟩:=Zf hb;have B21:Bt W h _ (gr w15 g16):=ii;clear hb B20 this;dsimp only;have FL2:=Ui V (zE F1 V.ds.length ((txg+1)%4*4) 0 (ubS V.s V.secs (txg+1:Nat) n')) (N1+4*V.ds.length) pb txg root live (.slice sa l.length scap) (.slice ra V.ds.length rcap) (pV bk) (.pointer none) (.pointer ow);go_wp2_with fail;have B22:=B21.app [_,_];refine(Bt.call FL2 (B:=B22)).mono ?_;rintro e w17 ⟨v17,q,rfl,⟨rfl,rfl⟩,B23⟩;clear B22 B21 FL2;have B24:=B23.flat;clear B23;simp only [List.cons_append,List.nil_append]at B24;dsimp only
  have ok2:=ok1.ub (V:=V) (C':=C-70010) (N':=N1+4*V.ds.length) (d:=V.ds.length) (sl:=(txg+1)%4*4) (j:=0) (t':=ubS V.s V.secs (txg+1:Nat) n') (by
   haveI:=Z0 (i:=1) B24 rfl
   exact(Zo V _ w17).1.g) (by omega) (by have:=ok1.bd;omega) (by omega) (by omega)
  generalize zE F1 V.ds.length ((txg+1)%4*4) 0 (ubS V.s V.secs (txg+1:Nat) n')=F2 at B24 ok2;go_wp2_with(first|((with_reducible apply Za);(·exact rfl);(·exact ii))|((with_reducible apply Zb);(·exact rfl);(·exact rfl);(·exact ii)));refine yz (W:=W) (h:=h) ii ?_;clear B24;intro w18 B25;have B26:=Bt.oS (B25) [0,4,5,6,1,7,2,3,8];have B27:Bt W h (star (yI V pb (txg+1) n' live l sa scap ra rcap (some ⟨bk,0,none⟩) none ow bk sb (N1+4*V.ds.length) F2 ms1 es1)::_) w18:=B26.app [_,_,_,_,_,_];clear B25 B26;rw [<-yI.gh V (zE V.rg V.ds.length ((txg+1)%4*4) 0 (ubS V.s V.secs (txg+1:Nat) n')) V.ro]at B27;obtain⟨g0,o0,ht0⟩:=Hob.out trivial;have HT0:=Lib.hid ht0;have HKK:=Lib.hid hKK;have wok1:qF K' txg live l wd:=wok.mono hKK (Nat.le_refl _);have BK:=UZ (V:=V.ub (txg+1) n') (pb:=pb) (txg:=txg+1) (root:=n') (by omega) hl (by omega) o0 _ rfl (ZeW wd) wok1.ts sa scap ra rcap ow bk sb _ F2 ms1 es1 ok2;have Wk:=Lib.hid wok1;have Ok2:=Lib.hid ok2;have HO0:=Lib.hid o0;clear wok wok1 ok2 ok1 ok o0 Hob ht0 hKK;refine(Bt.call BK (B:=B27)).mono ?_;rintro e w19 ⟨v19,q,rfl,hR,B28⟩;clear B27 BK;obtain⟨Z,bk3,sb3,N3,F3,ms3,es3,rfl,hR,rfl⟩:=hR;have HR:=Lib.hid hR;clear hR;dsimp only;go_wp2_with fail;go_ret;refine VF (W:=W) (h:=h) B28 λ w9 B9=>?_
  obtain⟨ok3,o3,hT,hH⟩:=HR.out;exact⟨_,.inr ⟨n',rfl,rfl⟩,(B9.head λ h' r=>⟨_,live,l,sa,scap,ra,rcap,_,_,ow,bk3,sb3,N3,F3,ms3,es3,⟨Wk.out.of_ts hT,⟨g0,o3,by rw [HMT.out];exact HT0.out⟩,λ p t hp=>hH p t (HKK.out _ _ (HK0.out _ _ hp))⟩,⟨ok3,by omega⟩,.inl ⟨rfl,rfl⟩,r⟩).fin_at 0 rfl⟩
 ·have hne:(er !=0)=true:=by simp [he]
  have He:=Lib.hid he;clear he;go_wp2_with((with_reducible apply Zb);(·exact rfl);(·exact rfl);(·exact ii));go_ret;exact XE (W:=W) (h:=h) ii λ w9 B9=>⟨_,.inl ⟨er,He.out,rfl,rfl⟩,B9.t.mono λ _ _=>trivial⟩
end
theorem ZjM(n:Nat):(YU n).flatten=List.replicate (n*2) (.int .i64 0):=by
 induction n with
 |zero=>rfl
 |succ n ih =>
  rw [YU,List.replicate_succ,List.flatten_cons,Nat.add_mul,Nat.add_comm (n*2)];rw [YU]at ih;rw [ih,<- List.replicate_append_replicate];rfl
theorem ZiG(n:Nat):(madeCells #[.int .i64 0,.int .i64 0] (n*2)).toList=(YU n).flatten:=by
 rw [ZjM,List.eq_replicate_iff];refine⟨by simp [madeCells],λ b hb=>?_⟩;simp only [madeCells,Array.toList_map,List.mem_map]at hb;obtain⟨k,_,rfl⟩:=hb;have:k%2=0\/k%2=1:=by omega
 rcases this with h|h<;>simp [h]
section
variable{ops:Array Oper}{rest:List Oper}{Q:Exit->Act->World->Prop}{a:Act}{w:World}{d:Option Tmp}{ty:TypeId}{pos:String}{aft:Array Edge}
theorem Zgt(w:World)(g:Nat)(n c:Nat):(Instr.build 78 #[(3,.slice (some ⟨g,0,none⟩) n c)]).run Tryz.prog w=.ok (.agg (mC Nd.none (.slice none 0 0) (.slice (some ⟨g,0,none⟩) n c))) w:=by kernel_rfl
theorem Zhe(V:VD)(w:World)(b g:Nat)(n c:Nat):(Instr.build 82 #[(0,.agg V.cs),(3,pV b),(2,.agg (mC Nd.none (.slice none 0 0) (.slice (some ⟨g,0,none⟩) n c)))]).run Tryz.prog w=.ok (.agg (X7 V 0 Nd.none Nd.none (.slice none 0 0) (.slice (some ⟨g,0,none⟩) n c) (pV b) (.pointer none) (.pointer none))) w:=by kernel_rfl
variable{Cw:World->Prop}{Kq:Act->Prop}
theorem jm{x:Operand}{g n c:Nat}(hx:a.eval x=.slice (some ⟨g,0,none⟩) n c)(h:wpQuiet Tryz.prog ops Cw Kq rest (a.put d (.agg (mC Nd.none (.slice none 0 0) (.slice (some ⟨g,0,none⟩) n c))))):wpQuiet Tryz.prog ops Cw Kq ({ dst:=d,op:=.build 78 #[(3,x)],type:=ty,pos:=pos,after:=aft,guard:=none }::rest) a:=by
 refine YE (v:=.agg _) rfl (λ w hw=>?_) h;simp only [execOp,List.map_toArray,List.map_cons,List.map_nil,hx,Sem.run_bind,Zgt w g n c,Result.andThen_ok,Sem.run_pure]
theorem qO{V:VD}{x y z:Operand}{b g n c:Nat}(hx:a.eval x=.agg V.cs)(hy:a.eval y=pV b)(hz:a.eval z=.agg (mC Nd.none (.slice none 0 0) (.slice (some ⟨g,0,none⟩) n c)))(h:wpQuiet Tryz.prog ops Cw Kq rest (a.put d (.agg (X7 V 0 Nd.none Nd.none (.slice none 0 0) (.slice (some ⟨g,0,none⟩) n c) (pV b) (.pointer none) (.pointer none))))):wpQuiet Tryz.prog ops Cw Kq ({ dst:=d,op:=.build 82 #[(0,x),(3,y),(2,z)],type:=ty,pos:=pos,after:=aft,guard:=none }::rest) a:=by
 refine YE (v:=.agg _) rfl (λ w hw=>?_) h;simp only [execOp,List.map_toArray,List.map_cons,List.map_nil,hx,hy,hz,Sem.run_bind,Zhe V w b g n c,Result.andThen_ok,Sem.run_pure]
theorem ZgB:∃ i,Tryz.prog.info? 92=some i/\i.zero=some (.agg #[.int .i64 0,.int .i64 0])/\i.size=2/\i.bytes=16:=by
 have h2:(Tryz.prog.info? 92).map (λ i=>(i.zero,i.size,i.bytes))=some (some (.agg #[.int .i64 0,.int .i64 0]),2,16):=by kernel_rfl
 cases hi:Tryz.prog.info? 92 with
 |none=>rw [hi]at h2;cases h2
 |some i =>
  rw [hi]at h2;simp only [Option.map_some,Option.some.injEq,Prod.mk.injEq]at h2;exact⟨i,rfl,h2.1,h2.2.1,h2.2.2⟩
theorem V9{x y:Operand}{kl kc:IntKind}{n:Nat}(hx:a.eval x=.int kl (n:Int))(hy:a.eval y=.int kc (n:Int))(hn:n<=1000000)
  (h:∀ w',(∃ g,w'=gr w g)->ZC 92 2 (some ⟨w.heap.size,0,none⟩) n n (YU n).flatten w' w->wpList Tryz.prog ops Q rest (a.put d (.slice (some ⟨w.heap.size,0,none⟩) n n)) w') :
  wpList Tryz.prog ops Q ({ dst:=d,op:=.makeSlice 76 x y,type:=ty,pos:=pos,after:=aft,guard:=none }::rest) a w:=by
 obtain⟨i,hi,hz,hs,hb⟩:=ZgB;refine wpList_make_full w rfl x y 76 rfl w.heap.size 92 i _ 2 Tryz.underlying76 hi hz hs kl kc _ _ n hx hy rfl rfl (by rw [hb];omega) (by unfold maxLen;omega) (Nat.le_refl _) ?_;intro w' ho hg;obtain⟨g,rfl⟩:=Zf (Below.grown (Below.refl w.heap.size w) hg (Nat.le_refl _) (λ k hk=>by cases hk));rw [show (Value.agg #[.int .i64 0,.int .i64 0]).cells=#[.int .i64 0,.int .i64 0] from rfl,ZiG]at ho;exact h _ ⟨g,rfl⟩ ⟨ho,g,rfl⟩
end
def PoM(V:VD)(pb N:Nat)(F:Nat->Nat->ByteArray)(K:KS)(C:Nat):SP:=λ h=>∃ ra rcap bk sb ms es,(Qu V sb K C N F ms/\C<=1000000000)/\star (yI V pb 0 Nd.none Nd.none [] none 0 ra rcap (some ⟨bk,0,none⟩) none none bk sb N F ms es) h
theorem PoM.p{V:VD}{pb N:Nat}{F:Nat->Nat->ByteArray}{K:KS}{C:Nat}{h:Hl}(p:PoM V pb N F K C h):Kh V pb 0 Nd.none Nd.none [] K C h:=by
 obtain⟨ra,rcap,bk,sb,ms,es,o,s⟩:=p;exact⟨none,0,ra,rcap,_,none,none,bk,sb,N,F,ms,es,o,.inl ⟨rfl,rfl⟩,s⟩
section
variable{V:VD}
theorem ZcX(N C:Nat)(F:Nat->Nat->ByteArray)(K:KS)(kp:∀ ms,Xo V.s V.secs F (V.us ms) K)(hr:∀ d k,k<16->F d k=V.rg d k)(hro:V.ro=true->C=0)(hC:C<=1000000000)(hN:N+64*C<=1000000000000) :
  Tq 34 #[V.v] (ZE V N F) λ v q=>∃ pb,v=pV pb/\q=PoM V pb N F K C:=by
 refine Tq.of λ W h B=>?_
 go_in
 go_wp2_with((with_reducible apply Za);(·exact rfl);(·exact ii));refine yz (W:=W) (h:=h) ii ?_;clear B;intro w1 B1;haveI:=Z0 (i:=1) B1 rfl;have df:=Zo V F w1;haveI:Ky V.s V.secs:=⟨df.1.g⟩
 haveI:GM V.s w1:=df.2.1;have hb0:V.s.blk<w1.heap.size:=(df.2.1.isOld (k:=0) (by have:=df.1.g.1;omega)).h;have hle:=df.1.le;refine(Zc6 V.s V.secs w1 hb0).mono ?_;rintro e w2 ⟨bb,g2,cap2,bs,rfl,hg,hn⟩;have B4:=(B1.join hg hn).flat;clear B1 hg hn hb0 this df;dsimp only;simp only [List.cons_append,List.nil_append]at B4;go_wp2_with fail;refine plZ (.q [0,1,2,3,4] (.g 5 (.q [6,7] (.g 8 (.q [9] .d))))) ?_;simp only [Zk.run,pick,gZ,gS,gA,gN]
 (repeat(first|((with_reducible apply Zc);(·exact rfl);(·rintro _ ⟨gq,rfl⟩;exact ii);go_frame)|go_big_quiet_step (exact qZ)));refine nZ ?_
 rintro w3 hw3;have B5:Bt W h _ w3:=Ze hw3;clear B4;refine V9 (n:=V.ds.length) rfl rfl (by omega) ?_;intro w4 hg hO;obtain⟨hp,j4,r4,o4⟩:=Qy hO (by simp [YU]) (by intro x hx;rw [YU,List.mem_replicate]at hx;rw [hx.2];rfl);have B6:=B5.join (p:=Zw 92 2 (some ⟨w3.heap.size,0,none⟩) V.ds.length V.ds.length (YU V.ds.length)) hg ⟨hp,⟨by simp [YU],(by intro x hx;rw [YU,List.mem_replicate]at hx;rw [hx.2];rfl),.inr ⟨_,rfl,by unfold maxLen;omega,r4⟩⟩,j4,o4⟩;clear B5 hO j4 r4 o4;go_wp2_with fail;dsimp only [Nx];refine⟨yJ hw3 hg,?_⟩;clear hw3 hg;refine jm rfl ?_;go_frame;refine qO (V:=V) (b:=bb) rfl rfl rfl ?_;go_frame
 (repeat go_big_quiet_step (exact qZ));refine nZ ?_
 rintro w5 hw5;have B7:Bt W h _ w5:=Ze hw5;clear B6;go_wp2_with fail;dsimp only [Nx];refine⟨Kw hw5 _,?_⟩;clear hw5
 (repeat go_big_quiet_step (exact qZ));refine nZ ?_
 refine Z4 ?_;intro w6 B8;clear B7;go_wp2_with fail;go_ret;refine XE (W:=W) (h:=h) B8 λ w9 B9=>?_
 have B10:=B9.more (Zw.nil 125 15 _);simp only [List.cons_append,List.nil_append]at B10;have B11:=Bt.oS (B10) [0,6,1,3,5,2,4];have B12:=B11.app [_,_,_,_,_,_];exact⟨_,⟨w5.heap.size,rfl,rfl⟩,(B12.head λ h' r=>⟨_,_,bb,_,_,_,⟨⟨ZaG _ _ _,kp _,hN,hr,hro⟩,hC⟩,r⟩).fin_at 0 rfl⟩
end
theorem Zoq{K:KS}{txg:Nat}:qF K txg Nd.none [] ⟨λ _=>none,[]⟩:=⟨jX.none _,rfl,λ k x y e=>(by simp at e),⟨by simp,by simp,by simp,by simp,by simp,by simp⟩⟩
section
variable{V:VD}
theorem ZdY(N C:Nat)(F:Nat->Nat->ByteArray)(hr:∀ d k,k<16->F d k=V.rg d k)(hro:V.ro=false)(hC:70010<=C/\C<=1000000000)(hN:N+64*C<=1000000000000) :
  Tq 44 #[V.v] (ZE V N F) λ v q=>(∃ e:Int,e≠0/\v=.tuple #[.pointer none,.int .i64 e]/\q=star [])\/∃(pb:Nat)(n':Nd),v=.tuple #[pV pb,.int .i64 0]/\q=PoY (V.ub 1 n') pb 1 n' (C-70010) (λ _ _=>False) ⟨λ _=>none,[]⟩:=by
 refine Tq.of λ W h B=>?_
 have MD:=ZcX (V:=V) N C F (λ _ _=>False) (λ _=>⟨λ _ _ e=>e.elim,λ _ _ e=>e.elim,λ _ _ _ _ e=>e.elim⟩) hr (λ e=>by rw [hro]at e;cases e) hC.2 hN
 go_in
 go_wp2_with((with_reducible apply Za);(·exact rfl);(·exact ii));refine yz (W:=W) (h:=h) ii ?_;clear B;intro w1 B1;haveI:=Z0 (i:=1) B1 rfl;refine(YZ V F w1).1.mono ?_;rintro e w2 ⟨rfl,hb⟩;obtain⟨g2,rfl⟩:=Zf hb;have B2:Bt W h _ (gr w1 g2):=ii;clear hb B1 this;dsimp only;go_wp2_with((with_reducible apply Za);(·exact rfl);(·exact ii));refine(Bt.call MD (B:=B2)).mono ?_;rintro e w3 ⟨v,q,rfl,⟨pb,rfl,rfl⟩,B3a⟩;have B3:Bt W h [_,Xn V pb 0 Nd.none C (λ _ _=>False) ⟨λ _=>none,[]⟩] w3:=B3a.map (i:=1) (q:=Xn V pb 0 Nd.none C (λ _ _=>False) ⟨λ _=>none,[]⟩) rfl λ h p=>⟨λ _ _=>False,Nd.none,[],⟨λ _ _ e=>e,Zoq⟩,PoM.p p⟩
 clear B2 MD B3a;dsimp only;have SY:=VJ (V:=V) (pb:=pb) (txg:=0) (root:=Nd.none) (C:=C) (K0:=λ _ _=>False) (wd:=⟨λ _=>none,[]⟩) (by omega) hC.1;go_wp2_with fail;refine(Bt.call SY (B:=B3)).mono ?_;rintro e w4 ⟨v,q,rfl,hR,B4⟩;clear B3 SY;dsimp only;rcases hR with ⟨er,he,rfl,rfl⟩|⟨n',rfl,rfl⟩
 ·have hne:(er !=0)=true:=by simp [he]
  have He:=Lib.hid he;clear he;go_wp2_with fail;go_ret2;exact XE (W:=W) (h:=h) B4 λ w9 B9=>⟨_,.inl ⟨er,He.out,rfl,rfl⟩,B9.t.mono λ _ _=>trivial⟩
 ·go_wp2_with fail;go_ret2;exact XE (W:=W) (h:=h) B4 λ w9 B9=>⟨_,.inr ⟨pb,n',rfl,rfl⟩,B9.drop.fin_at 0 rfl⟩
end
theorem Zdk{α:Type}(f:Nat->α)(n k:Nat)(v:α):((List.range n).map f).set k v=(List.range n).map (Yw f k v):=by
 refine List.ext_getElem? λ j=>?_
 rw [List.getElem?_set,List.getElem?_map,List.getElem?_map]
 by_cases h:k=j
 ·subst h
  by_cases hk:k<n
  ·simp [hk,Yw]
  ·simp [hk]
 ·have h2:¬ j=k:=λ e=>h e.symm
  rw [if_neg h]
  by_cases hk:j<n
  ·simp [hk,Yw,h2]
  ·simp [hk]
theorem ZmX{α:Type}(g:α->Value)(H:Nat->α)(k:Nat)(v:α):Yw (λ j=>g (H j)) k (g v)=λ j=>g (Yw H k v j):=by funext j;unfold Yw;split<;>rfl
def ZbH(H:Nat->Bool):List Value:=(List.range 32).map λ k=>.bool (H k)
def Zhn(X:Nat->ByteArray):List Value:=(List.range 32).map λ k=>.string (X k)
def Vs(H:Nat->Bool)(X:Nat->ByteArray):List Value:=ZbH H++Zhn X
def wlL(H:Nat->Bool)(X:Nat->ByteArray)(a b:Value):List Value:=Vs H X++[a,b]
def yj(H:Nat->Bool)(X:Nat->ByteArray):Array Value:=(Vs H X).toArray
def Yx(H:Nat->Bool)(X:Nat->ByteArray)(a b:Value):Array Value:=(wlL H X a b).toArray
section
variable(H:Nat->Bool)(X:Nat->ByteArray)(a b:Value)
theorem JZ:(ZbH H).length=32:=by simp [ZbH]
theorem Yq:(Vs H X).length=64:=by simp [Vs,ZbH,Zhn]
theorem VP:(wlL H X a b).length=66:=by simp [wlL,Yq]
theorem ZcV{k:Nat}(hk:k<32):(Vs H X)[k]?=some (.bool (H k)):=by
 unfold Vs;rw [List.getElem?_append_left (by rw [JZ];exact hk)];simp [ZbH,hk]
theorem Zdj{k:Nat}(hk:k<32):(Vs H X)[32+k]?=some (.string (X k)):=by
 unfold Vs;rw [List.getElem?_append_right (by rw [JZ];omega),JZ,Nat.add_sub_cancel_left];simp [Zhn,hk]
theorem Zgg{k:Nat}(hk:k<32)(v:Bool):(Vs H X).set k (.bool v)=Vs (Yw H k v) X:=by
 unfold Vs;rw [List.set_append_left _ _ (by rw [JZ];exact hk)];unfold ZbH;rw [Zdk,ZmX (λ x=>Value.bool x)]
theorem Zh1{k:Nat}(v:ByteArray):(Vs H X).set (32+k) (.string v)=Vs H (Yw X k v):=by
 unfold Vs;rw [List.set_append_right _ _ (by rw [JZ];omega),JZ,Nat.add_sub_cancel_left];unfold Zhn;rw [Zdk,ZmX (λ x=>Value.string x)]
theorem Zdl{k:Nat}(hk:k<32):(Yx H X a b)[k]?=some (.bool (H k)):=by
 unfold Yx wlL;rw [List.getElem?_toArray,List.getElem?_append_left (by rw [Yq];omega),ZcV H X hk]
theorem ZdR{k:Nat}(hk:k<32):(Yx H X a b)[32+k]?=some (.string (X k)):=by
 unfold Yx wlL;rw [List.getElem?_toArray,List.getElem?_append_left (by rw [Yq];omega),Zdj H X hk]
theorem ZgV:(Yx H X a b)[64]?=some a:=by
 unfold Yx wlL;rw [List.getElem?_toArray,List.getElem?_append_right (by rw [Yq];omega),Yq];rfl
theorem Zhj:(Yx H X a b)[65]?=some b:=by
 unfold Yx wlL;rw [List.getElem?_toArray,List.getElem?_append_right (by rw [Yq];omega),Yq];rfl
theorem Zhs{k:Nat}(hk:k<32)(v:Bool):(Yx H X a b).setIfInBounds k (.bool v)=Yx (Yw H k v) X a b:=by
 unfold Yx wlL;rw [List.setIfInBounds_toArray,List.set_append_left _ _ (by rw [Yq];omega),Zgg H X hk]
theorem ZgP{k:Nat}(hk:k<32)(v:ByteArray):(Yx H X a b).setIfInBounds (32+k) (.string v)=Yx H (Yw X k v) a b:=by
 unfold Yx wlL;rw [List.setIfInBounds_toArray,List.set_append_left _ _ (by rw [Yq];omega),Zh1 H X]
theorem Zfk(v:Value):(Yx H X a b).setIfInBounds 64 v=Yx H X v b:=by
 unfold Yx wlL;rw [List.setIfInBounds_toArray,List.set_append_right _ _ (by rw [Yq];omega),Yq];rfl
theorem Zd0(v:Value):(Yx H X a b).setIfInBounds 65 v=Yx H X a v:=by
 unfold Yx wlL;rw [List.setIfInBounds_toArray,List.set_append_right _ _ (by rw [Yq];omega),Yq];rfl
end
def Yi(T:Yt)(k:Nat):Bool:=(T k).isSome
def Yf(T:Yt)(k:Nat):ByteArray:=(T k).getD ⟨#[]⟩
theorem Zet(T:Yt)(k:Nat)(t:ByteArray):Yw (Yi T) k true=Yi (Yw T k (some t)):=by funext j;unfold Yi Yw;split<;>rfl
theorem US(T:Yt)(k:Nat)(t:ByteArray):Yw (Yf T) k t=Yf (Yw T k (some t)):=by funext j;unfold Yf Yw;split<;>rfl
theorem Zfe(T:Yt)(k:Nat):Yw (Yi T) k false=Yi (Yw T k none):=by funext j;unfold Yi Yw;split<;>rfl
theorem Zfa(T:Yt)(k:Nat):Yw (Yf T) k ⟨#[]⟩=Yf (Yw T k none):=by funext j;unfold Yf Yw;split<;>rfl
theorem ZhA{T:Yt}{k:Nat}(h:(T k).isSome=true)(t:ByteArray):Yi T=Yi (Yw T k (some t)):=by funext j;unfold Yi Yw;split;(rename_i e;rw [e,h];rfl);rfl
def seO(T:Yt):List Value:=Vs (Yi T) (Yf T)
def JI(l:List (Int × Yt)):List (List Value):=l.map λ y=>[.int .i64 y.1]
def yE(l:List (Int × Yt)):List (List Value):=l.map λ y=>seO y.2
structure QE where
 d:UInt8
 id:Int
 off:Int
 n:Int
 fill:UInt8
def QE.cs(a:QE):Array Value:=#[.int .u8 a.d.toNat,.int .i64 a.id,.int .i64 a.off,.int .i64 a.n,.int .u8 a.fill.toNat]
def km(n:Int):Nat:=(min (max n 0) 600).toNat/4*4
theorem VC(n:Int):km n<=600:=by unfold km;omega
def DoK(m:Nat)(a:QE)(wd wd':Wd):Prop :=
 match m with
 |3=>CuO a.id a.off wd wd'
 |4=>ReO a.id wd wd'
 |5=>SpO a.id wd wd'
 |6=>DeO a.id wd wd'
 |7=>RoO a.id wd wd'
 |_=>WrO a.id a.off (K4 a.fill (km a.n)) wd wd'
def jN(a:QE)(wd wd':Wd):Prop:=DoK (a.d.toNat%8) a wd wd'
structure KK(wd:Wd):Prop where
 len:wd.snaps.length<=4
 nd:(wd.snaps.map Prod.fst).Nodup
 pos:∀ y∈wd.snaps,0<=y.1
 live:∀ k t,wd.live k=some t->t.size<=16384
 old:∀ y∈wd.snaps,∀ k t,y.2 k=some t->t.size<=16384
theorem Zg9{t s:ByteArray}{o:Nat}(ht:t.size<=16384)(h:o+s.size<=16384):(qE t o s).size<=16384:=by
 unfold qE;rw [YA];split<;>omega
theorem Zd2{t:ByteArray}{o:Nat}(h:o<=16384):(yT t o).size<=16384:=by
 unfold yT;rw [YA];exact h
theorem Zcu{T:Yt}{k:Nat}{o:Option ByteArray}(h:∀ k t,T k=some t->t.size<=16384)(ho:∀ t,o=some t->t.size<=16384):∀ j t,Yw T k o j=some t->t.size<=16384:=λ j t e=>by
 unfold Yw at e;split at e
 ·exact ho t e
 ·exact h j t e
theorem jN.ok{a:QE}{wd wd':Wd}(d:jN a wd wd')(o:KK wd):KK wd':=by
 have hz:∀ k,((wd.live k).getD ⟨#[]⟩).size<=16384:=λ k=>by
  cases e:wd.live k with
  |none=>exact Nat.zero_le _
  |some t=>exact o.live k t e
 unfold jN DoK at d;split at d
 ·obtain⟨k,m,_,⟨_,h1,_⟩,rfl⟩:=d;exact⟨o.len,o.nd,o.pos,Zcu o.live (λ t e=>by cases e;exact Zd2 h1),o.old⟩
 ·obtain⟨k,_,_,rfl⟩:=d;exact⟨o.len,o.nd,o.pos,Zcu o.live (λ t e=>by cases e),o.old⟩
 ·obtain⟨⟨h0,_⟩,h1,h2,rfl⟩:=d;refine⟨by simp;omega,?_,?_,o.live,?_⟩
  ·rw [List.map_append,List.nodup_append];refine⟨o.nd,by simp,λ x hx y hy=>?_⟩;obtain⟨z,hz,rfl⟩:=List.mem_map.1 hx;have:y=a.id:=by simpa using hy
   rw [this];exact h1 z hz
  ·intro y hy;rcases List.mem_append.1 hy with hy|hy
   ·exact o.pos y hy
   ·rw [List.mem_singleton]at hy;rw [hy];exact h0
  ·intro y hy;rcases List.mem_append.1 hy with hy|hy
   ·exact o.old y hy
   ·rw [List.mem_singleton]at hy;rw [hy];exact o.live
 ·obtain⟨i,T,_,rfl⟩:=d;have hs:=List.eraseIdx_sublist wd.snaps i;exact⟨Nat.le_trans hs.length_le o.len,(hs.map _).nodup o.nd,λ y hy=>o.pos y (hs.subset hy),o.live,λ y hy=>o.old y (hs.subset hy)⟩
 ·obtain⟨i,T,h,rfl⟩:=d;exact⟨o.len,o.nd,o.pos,o.old _ (List.mem_of_getElem? h),o.old⟩
 ·obtain⟨k,m,_,⟨_,h1⟩,rfl⟩:=d;exact⟨o.len,o.nd,o.pos,Zcu o.live (λ t e=>by cases e;exact Zg9 (hz k) h1),o.old⟩
theorem Zar{l:List (Int × Yt)}(nd:(l.map Prod.fst).Nodup){i j:Nat}{id:Int}{T T':Yt}(h:l[i]?=some (id,T))(h':l[j]?=some (id,T')):i=j:=by
 have e1:(l.map Prod.fst)[i]?=some id:=by rw [List.getElem?_map,h];rfl
 have e2:(l.map Prod.fst)[j]?=some id:=by rw [List.getElem?_map,h'];rfl
 exact(List.getElem?_inj (List.getElem?_eq_some_iff.1 e1).1 nd).1 (e1.trans e2.symm)
theorem jN.one{a:QE}{wd x y:Wd}(o:KK wd)(d:jN a wd x)(d':jN a wd y):x=y:=by
 unfold jN at d d';generalize a.d.toNat%8=m at d d';unfold DoK at d;split at d
 ·obtain⟨k,m,⟨e1,_⟩,⟨e2,_⟩,rfl⟩:=d;obtain⟨k',m',⟨e3,_⟩,⟨e4,_⟩,rfl⟩:=d';obtain rfl:k=k':=by omega
  obtain rfl:m=m':=by omega
  rfl
 ·obtain⟨k,⟨e1,_⟩,_,rfl⟩:=d;obtain⟨k',⟨e3,_⟩,_,rfl⟩:=d';obtain rfl:k=k':=by omega
  rfl
 ·obtain⟨_,_,_,rfl⟩:=d;obtain⟨_,_,_,rfl⟩:=d';rfl
 ·obtain⟨i,T,h,rfl⟩:=d;obtain⟨j,T',h',rfl⟩:=d';rw [Zar o.nd h h']
 ·obtain⟨i,T,h,rfl⟩:=d;obtain⟨j,T',h',rfl⟩:=d';obtain rfl:=Zar o.nd h h';rw [h]at h';injection h' with h';injection h' with _ h';rw [h']
 ·unfold DoK at d';split at d'<;>first|contradiction|skip
  obtain⟨k,m,⟨e1,_⟩,⟨e2,_⟩,rfl⟩:=d;obtain⟨k',m',⟨e3,_⟩,⟨e4,_⟩,rfl⟩:=d';obtain rfl:k=k':=by omega
  obtain rfl:m=m':=by omega
  rfl
instance ZpN:XF 39 66:=⟨λ W b o cs _=>ZS W b o 66 cs _ _ Tryz.underlying39 rfl (by kernel_rfl)⟩
instance Zqx:XF 35 64:=⟨λ W b o cs _=>ZS W b o 64 cs _ _ Tryz.underlying35 rfl (by kernel_rfl)⟩
instance Zom:XF 86 5:=⟨λ W b o cs _=>ZS W b o 5 cs _ _ Tryz.underlying86 rfl (by kernel_rfl)⟩
section
variable(H H':Nat->Bool)(X X':Nat->ByteArray)(u v:Value)
@[go_sem] theorem kG:(Yx H X u v).size=66:=by simp [Yx,VP]
@[go_sem] theorem kO:(yj H X).size=64:=by simp [yj,Yq]
instance(priority:=low) Zqj(W:World)(b:Nat)[c:Zh W b (Yx H X u v)]:ZJ b 0 (Yx H X u v) 66 W :=
 ⟨kG ..,Zh.old (cs:=Yx H X u v) c,λ j x e=>by rw [YO W b (0+j) (Yx H X u v),Nat.zero_add];simpa using e⟩
instance(priority:=low) Zqr(W:World)(b:Nat)[c:Zh W b (Yx H X u v)]:ZJ b 0 (yj H X) 64 W :=
 ⟨kO ..,Zh.old (cs:=Yx H X u v) c,λ j x e=>by
  rw [YO W b (0+j) (Yx H X u v),Nat.zero_add]
  have hj:j<64:=by
   have:=(List.getElem?_eq_some_iff.1 e).1;simpa [yj,Yq]using this
  unfold Yx wlL;rw [List.getElem?_toArray,List.getElem?_append_left (by rw [Yq];exact hj)]
  simpa [yj]using e⟩
theorem j7:∀ x∈Vs H X,x.oneCell'=true:=by
 intro x hx;simp only [Vs,ZbH,Zhn,List.mem_append,List.mem_map]at hx;rcases hx with ⟨k,_,rfl⟩|⟨k,_,rfl⟩<;>rfl
theorem Zio[a:Ut u][b:Ut v]:∀ x∈wlL H X u v,x.oneCell'=true:=by
 intro x hx;rcases List.mem_append.1 hx with hx|hx
 ·exact j7 H X x hx
 ·simp only [List.mem_cons,List.not_mem_nil,or_false]at hx;rcases hx with rfl|rfl
  ·exact a.h
  ·exact b.h
theorem Zf5{W:World}{b z:Nat}{t:TypeId}{Y:Array Value}{l:List Value}{r:Array Value}[d:Zh W b Y](hz:(Tryz.prog.info? t).map (·.size)=some z)(hl:l.length=z)(h1:∀ v∈l,v.oneCell'=true)(hle:z<=Y.size)(e:(l++Y.toList.drop z).toArray=r):KA t b 0 l.toArray W (W.setRow b r):=by
 obtain⟨tt,hb⟩:=d.get;have hs:=run_storeCells_at Tryz.prog b 0 tt l 0 Y W hb (by simpa [hl]using hle) h1;refine Jb hz hl (hs.trans ?_);rw [<-e,<- hl];simp
instance(priority:=low) ZpR(W:World)(b:Nat)(a c:Value)[d:Zh W b (Yx H' X' a c)][Ut u][Ut v]:KA 39 b 0 (Yx H X u v) W (W.setRow b (Yx H X u v)) :=
 Zf5 (z:=66) (by kernel_rfl) (VP ..) (Zio H X u v) (by rw [kG];omega) (by rw [List.drop_eq_nil_of_le (by simp [Yx,VP]),List.append_nil];rfl)
instance(priority:=low) ZqD(W:World)(b:Nat)(a c:Value)[d:Zh W b (Yx H' X' a c)]:KA 35 b 0 (yj H X) W (W.setRow b (Yx H X a c)) :=
 Zf5 (z:=64) (by kernel_rfl) (Yq ..) (j7 H X) (by rw [kG];omega) (by
  have:(Yx H' X' a c).toList.drop 64=[a,c]:=by
   simp only [Yx,wlL];rw [List.drop_append_of_le_length (by rw [Yq];exact Nat.le_refl _),List.drop_eq_nil_of_le (by rw [Yq];exact Nat.le_refl _)];rfl
  rw [this];rfl)
end
abbrev noH(_:Nat):Bool:=false
abbrev noX(_:Nat):ByteArray:=⟨#[]⟩
abbrev wl0:Array Value:=Yx noH noX (.slice none 0 0) (.slice none 0 0)
instance Zkl:Zbd 39 wl0:=⟨λ _=>by kernel_rfl⟩
theorem Zho(w:World)(H:Nat->Bool)(X:Nat->ByteArray):(Instr.build 39 #[(0,.agg (yj H X))]).run Tryz.prog w=.ok (.agg (Yx H X (.slice none 0 0) (.slice none 0 0))) w:=by kernel_rfl
section
variable{ops:Array Oper}{rest:List Oper}{Q:Exit->Act->World->Prop}{a:Act}{w:World}{d:Option Tmp}{ty:TypeId}{pos:String}{aft:Array Edge}
theorem Xf{x:Operand}{H:Nat->Bool}{X:Nat->ByteArray}(hx:a.eval x=.agg (yj H X))(h:wpList Tryz.prog ops Q rest (a.put d (.agg (Yx H X (.slice none 0 0) (.slice none 0 0)))) w) :
  wpList Tryz.prog ops Q ({ dst:=d,op:=.build 39 #[(0,x)],type:=ty,pos:=pos,after:=aft,guard:=none }::rest) a w:=by
 refine Ya (v:=.agg _) (w':=w) rfl ?_ h;simp only [execOp,List.map_toArray,List.map_cons,List.map_nil,hx,Sem.run_bind,Zho w H X,Result.andThen_ok,Sem.run_pure]
structure YI(G:Prop):Prop where
 o:G
theorem YJ{o:Option Tmp}{args:Array Operand}{tt:Array TypeId}(h:YI (wpList Tryz.prog ops Q ({ dst:=o,op:=.call { callee:=.builtin .append,args:=args,argTypes:=tt },type:=ty,pos:=pos,after:=aft,guard:=none }::rest) a w)) :
  wpList Tryz.prog ops Q ({ dst:=o,op:=.call { callee:=.builtin .append,args:=args,argTypes:=tt },type:=ty,pos:=pos,after:=aft,guard:=none }::rest) a w:=h.o
theorem ZD(h:wpList Tryz.prog ops Q rest (a.put d (.pointer (some ⟨w.heap.size,0,none⟩))) (w.alloc (.cells wl0 39))) :
  wpList Tryz.prog ops Q ({ dst:=d,op:=.alloc 39,type:=ty,pos:=pos,after:=aft,guard:=none }::rest) a w:=by
 refine Ya (v:=.pointer (some ⟨w.heap.size,0,none⟩)) (w':=w.alloc (.cells wl0 39)) rfl ?_ h
 kernel_rfl
theorem Zjl(w:World)(H:Nat->Bool)(X:Nat->ByteArray):(Instr.buildSlice 37 1 #[(0,.agg (yj H X))]).run Tryz.prog w=.ok (.slice (some ⟨w.heap.size,0,none⟩) 1 1) (w.alloc (.cells (yj H X) 35)):=by kernel_rfl
theorem ZcK{x:Operand}{H:Nat->Bool}{X:Nat->ByteArray}(hx:a.eval x=.agg (yj H X))(h:wpList Tryz.prog ops Q rest (a.put d (.slice (some ⟨w.heap.size,0,none⟩) 1 1)) (w.alloc (.cells (yj H X) 35))) :
  wpList Tryz.prog ops Q ({ dst:=d,op:=.buildSlice 37 1 #[(0,x)],type:=ty,pos:=pos,after:=aft,guard:=none }::rest) a w:=by
 refine Ya rfl ?_ h;simp only [execOp,List.map_toArray,List.map_cons,List.map_nil,hx,Sem.run_bind,Zjl w H X,Result.andThen_ok,Sem.run_pure]
end
instance ZpZ:Jl 37 35 64 544:=Qj Tryz.underlying37 (by kernel_rfl) (by omega)
attribute [go_sem] Zdl ZdR ZgV Zhj
theorem q6{cs:Array Value}{k:Nat}{v:Value}(e:cs[k]?=some v)(h:k<cs.size):cs[k]=v:=by
 rw [Array.getElem?_eq_getElem h]at e;exact Option.some.inj e
section
variable(H:Nat->Bool)(X:Nat->ByteArray)(u v:Value)
@[go_sem] theorem ZpE (h:64<(Yx H X u v).size):(Yx H X u v)[64]=u:=q6 (ZgV ..) h
@[go_sem] theorem Zoc (h:65<(Yx H X u v).size):(Yx H X u v)[65]=v:=q6 (Zhj ..) h
@[go_sem] theorem Zm7 {k:Nat} (h:k<(Yx H X u v).size) (hk:k<32):(Yx H X u v)[k]=.bool (H k):=q6 (Zdl _ _ _ _ hk) h
@[go_sem] theorem ZnM {k:Nat} (h:32+k<(Yx H X u v).size) (hk:k<32):(Yx H X u v)[32+k]=.string (X k):=q6 (ZdR _ _ _ _ hk) h
end
theorem Zg.new1{W w:World}{p:SP}(T:Zg W (λ _=>none) p w):zP p W w:=by
 obtain⟨m,h',i,x,s⟩:=T;haveI:Qf W.heap.size (λ _=>none):=⟨λ _ _=>rfl⟩
 exact⟨Zf (Jf (Below.refl _ _) m),h',s,i,⟨λ n hn=>x n hn rfl⟩⟩
section
variable{W w:World}{l:List SP}{z n cap:Nat}{ad:Option Addr}{xs:List (List Value)}
theorem Bt.below0(B:Bt W (λ _=>none) l w):Below W.heap.size W w:=by
 obtain⟨m,_⟩:=B.t;haveI:Qf W.heap.size (λ _=>none):=⟨λ _ _=>rfl⟩
 exact Jf (Below.refl _ _) m
theorem Bt.rds0(B:Bt W (λ _=>none) l w)(R:Zy z ad n cap xs W):Zy z ad n cap xs w:=by
 obtain⟨m,_⟩:=B.t;exact m.rds R λ _ _ _=>rfl
end
@[go_sem] theorem ZiQ (H:Nat->Bool) (X:Nat->ByteArray) {k:Nat} (hk:k<32):(yj H X)[k]?=some (.bool (H k)):=by
 unfold yj;rw [List.getElem?_toArray,ZcV H X hk]
@[go_sem] theorem ZiL (H:Nat->Bool) (X:Nat->ByteArray) {k:Nat} (hk:k<32):(yj H X)[32+k]?=some (.string (X k)):=by
 unfold yj;rw [List.getElem?_toArray,Zdj H X hk]
@[go_sem] theorem ZnW (H:Nat->Bool) (X:Nat->ByteArray) {k:Nat} (h:k<(yj H X).size) (hk:k<32):(yj H X)[k]=.bool (H k):=q6 (ZiQ _ _ hk) h
@[go_sem] theorem Znt (H:Nat->Bool) (X:Nat->ByteArray) {k:Nat} (h:32+k<(yj H X).size) (hk:k<32):(yj H X)[32+k]=.string (X k):=q6 (ZiL _ _ hk) h
def KO(wd:Wd)(ia:Option Addr)(icap:Nat)(sa:Option Addr)(scap:Nat):Array Value:=Yx (Yi wd.live) (Yf wd.live) (.slice ia wd.snaps.length icap) (.slice sa wd.snaps.length scap)
structure Kf(ad:Option Addr)(n cap:Nat)(L:List QE)(W:World)(h:Hl):Prop where
 rd:Zy 5 ad n cap (L.map λ a=>a.cs.toList) W
 out:∀ a,ad=some a->0<n->h a.block=none
section
variable{W w:World}{h:Hl}{l:List SP}{ad:Option Addr}{n cap:Nat}{L:List QE}
theorem Kf.bt(A:Kf ad n cap L W h)(B:Bt W h l w):Zy 5 ad n cap (L.map λ a=>a.cs.toList) w:=by
 obtain⟨m,_⟩:=B.t;exact m.rds A.rd A.out
def TqA(A:World->Hl->Prop)(f:FuncId)(args:Array Value)(p:SP)(R:Value->SP->Prop):Prop:=∀ W h,Has W h->p h->A W h->Calls Tryz.prog f args W λ e w'=>∃ v q,e=.returned v/\R v q/\Zg W h q w'
theorem TqA.of{A:World->Hl->Prop}{f:FuncId}{args:Array Value}{p:SP}{R:Value->SP->Prop}(k:∀ W h,Bt W h [p] W->A W h->Calls Tryz.prog f args W λ e w'=>∃ v q,e=.returned v/\R v q/\Zg W h q w'):TqA A f args p R:=λ W h i s a=>k W h (Bt.start s) a
theorem Bt.callA{f:FuncId}{args:Array Value}{p:SP}{R:Value->SP->Prop}(t:TqA (Kf ad n cap L) f args p R){k:SP->List SP}(A:Kf ad n cap L W h)[B:Bt W h l w][m:Foc l p k]:Calls Tryz.prog f args w λ e w'=>∃ v q,e=.returned v/\R v q/\Bt W h (k q) w':=by
 have Aw:=A.bt B;obtain⟨m',h1,j,x,s⟩:=B.t;obtain⟨i,e,hk⟩:=m.e;obtain⟨h0,a,b,c⟩:=s.focus e;refine(t w h0 (j.sub b) a ⟨Aw,λ ad' hd hn=>b.none (x _ (A.rd.lt ad' hd hn) (A.out ad' hd hn))⟩).mono λ e' w' ⟨v,q,ev,r,T⟩=>⟨v,q,ev,r,?_⟩
 rw [hk];exact⟨Zg.after m' x ((T.frame j b).mono λ h' ⟨h1,q1,q2,q3⟩=>c q h1 h' q1 q2 q3)⟩
end
theorem UC(a:QE)(W:World):Fn 51 #[.agg a.cs] W (.int .i64 (km a.n)):=by
 refine⟨?_⟩
 have e:wrap64 (wrap64 ((yA (Kb a.n 0) 600).tdiv 4)*4)=((km a.n:Nat):Int):=by
  have e1:yA (Kb a.n 0) 600=min (max a.n 0) 600:=by unfold yA Kb;split<;>split<;>omega
  unfold km;obtain⟨m,hm⟩:∃ m:Nat,min (max a.n 0) 600=(m:Int):=⟨(min (max a.n 0) 600).toNat,by omega⟩
  have hm6:m<=600:=by omega
  rw [e1,hm,Int.toNat_natCast,Int.tdiv_eq_ediv_of_nonneg (by omega)];unfold wrap64;omega
 have E:=Lib.hid e;clear e;unfold QE.cs
 go_in
 go_wp2_with fail;go_ret;exact ZM.mk (congrArg (Value.int .i64) E.out) grown
def Zmk(l:List (Int × Yt))(id r:Int):Prop:=(∃(i:Nat)(T:Yt),r=i/\l[i]?=some (id,T)/\∀ j y,j<i->l[j]?=some y->y.1≠id)\/(r=-1/\∀ y∈l,y.1≠id)
theorem Q9(H:Nat->Bool)(X:Nat->ByteArray)(bv:Value)(ad:Option Addr)(cap:Nat)(l:List (Int × Yt))(id r:Int)(hr:Zmk l id r)(hl:l.length<=1000)(W:World)[R:Zy 1 ad l.length cap (JI l) W] :
  Fn 49 #[.agg (Yx H X (.slice ad l.length cap) bv),.int .i64 id] W (.int .i64 r):=by
 refine⟨?_⟩;have HR:=Lib.hid hr;clear hr;haveI BZ:=Bt.zero W
 go_in
 go_wp2_with fail
 go_loopw [5] (λ iv wr=>∃ k:Nat,k<=l.length/\Hid (∀ j y,j<k->l[j]?=some y->y.1≠id)/\iv=.int .i64 k/\Bt W (λ _=>none) [Zd W.heap.size (Yx H X (.slice ad l.length cap) bv) 39] wr) (λ iv _=>l.length-(intOf iv).toNat)
 case atStart=>exact⟨0,Nat.zero_le _,Lib.hid (λ j _ hj=>absurd hj (Nat.not_lt_zero j)),rfl,ii⟩
 case round =>
  clear BZ;obtain⟨k,hk,hn,rfl,B⟩:=hrel
  by_cases hlt:k<l.length
  ·obtain⟨x,hx⟩:∃ x,l[k]?=some x:=⟨_,List.getElem?_eq_getElem hlt⟩
   obtain⟨g,og,rfl,hb,hc⟩:=(B.rds0 R).cells k [.int .i64 x.1] (by simp [JI,hx]);have c0:=hc 0 _ rfl;rw [Nat.add_zero,Nat.mul_one]at c0
   by_cases he:x.1=id
   ·have hrk:r=k:=by
     rcases HR.out with ⟨i,T,rfl,h1,h2⟩|⟨_,h2⟩
     ·rcases Nat.lt_trichotomy i k with h3|h3|h3
      ·exact absurd rfl (hn.out i _ h3 h1)
      ·rw [h3]
      ·exact absurd he (h2 k x h3 hx)
     ·exact absurd he (h2 x (List.mem_of_getElem? hx))
    have hq:(x.1==id)=true:=by rw [beq_iff_eq];exact he
    have HK:=Lib.hid hrk;clear hrk he hx hc R;go_wp2_with fail;go_ret;exact⟨by rw [HK.out];rfl,B.below0⟩
   ·have hq:(x.1==id)=false:=by rw [<-Bool.not_eq_true,beq_iff_eq];exact he
    have hn2:Hid (∀ j y,j<k+1->l[j]?=some y->y.1≠id):=Lib.hid λ j y hj e=>by
     rcases Nat.lt_or_eq_of_le (Nat.le_of_lt_succ hj)with h|rfl
     ·exact hn.out j y h e
     ·rw [hx]at e;cases e;exact he
    clear he hx hc R;go_wp2_with fail;exact⟨⟨k+1,hlt,hn2,by go_num,ii⟩,by simp [intOf];omega⟩
  ·obtain rfl:k=l.length:=by omega
   have hrk:r=-1:=by
    rcases HR.out with ⟨i,T,rfl,h1,h2⟩|⟨h1,_⟩
    ·exact absurd rfl (hn.out i _ (List.getElem?_eq_some_iff.1 h1).1 h1)
    ·exact h1
   have HK:=Lib.hid hrk;clear hrk;go_wp2_with fail;go_ret;exact⟨by rw [HK.out];rfl,B.below0⟩
theorem UJ(ad ad2:Option Addr)(n cap cap2:Nat)(L:List (List Value))(hL:∀ x∈L,∃ i:Int,x=[.int .i64 i])(hn:n<=1000)(W:World)[R:Zy 1 ad n cap L W][R2:Zy 1 ad2 n cap2 L W] :
  Fn 16 #[.slice ad n cap,.slice ad2 n cap2] W (.bool true):=by
 refine⟨?_⟩
 go_in
 go_wp2_with fail
 go_loopw [5] (λ iv wr=>∃ k:Nat,k<=n/\iv=.int .i64 k/\∃ g,wr=gr W g) (λ iv _=>n-(intOf iv).toNat)
 case atStart=>exact⟨0,Nat.zero_le _,rfl,Y1 W⟩
 case round =>
  obtain⟨k,hk,rfl,g,rfl⟩:=hrel
  by_cases hlt:k<n
  ·obtain⟨x,hx⟩:∃ x,L[k]?=some x:=⟨_,List.getElem?_eq_getElem (by rw [R.len];exact hlt)⟩
   obtain⟨i,rfl⟩:=hL x (List.mem_of_getElem? hx);obtain⟨b1,o1,rfl,hb1,hc1⟩:=R.cells k _ hx;obtain⟨b2,o2,rfl,hb2,hc2⟩:=R2.cells k _ hx;have c1:=hc1 0 _ rfl;have c2:=hc2 0 _ rfl;rw [Nat.add_zero,Nat.mul_one]at c1 c2;clear hc1 hc2 hx;go_wp2_with fail;refine plZ (.q [0,1,2,3,4,5,6,7,8] .d) ?_;simp only [Zk.run,pick,gZ,gS,gA,gN]
   (repeat go_big_quiet_step (exact qZ));refine nZ ?_
   rintro _ ⟨g2,rfl⟩;go_wp2_with fail;exact⟨⟨k+1,hlt,by go_num,_,rfl⟩,by simp [intOf];omega⟩
  ·obtain rfl:k=n:=by omega
   go_wp2_with fail;go_ret;exact ZM.mk rfl grown
end Go.Proofs.YtlfjdjndhcmliaaGreatDoor
