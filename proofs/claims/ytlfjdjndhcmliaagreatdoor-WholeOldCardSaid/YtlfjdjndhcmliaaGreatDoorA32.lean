/- WholeOld, part 32. -/
import Derived.Test.YtlfjdjndhcmliaaGreatDoorA31
import Derived.Test.YtlfjdjndhcmliaaGreatDoorA24
import Derived.Test.YtlfjdjndhcmliaaGreatDoorA28
set_option maxRecDepth 100000
set_option maxHeartbeats 4000000
set_option linter.all false
namespace Go.Proofs.YtlfjdjndhcmliaaGreatDoor
open Go.RowKit Go.Sort
abbrev pV(p:Nat):Value:=.pointer (some ⟨p,0,none⟩)
def Zh8(bk:Nat)(ob owk ow:Option Addr):Prop:=(owk=none/\ob=some ⟨bk,0,none⟩)\/∃ wk,owk=some ⟨wk,0,none⟩/\ow=some ⟨bk,0,none⟩
def yI(V:VD)(pb txg:Nat)(root live:Nd)(l:List Sn)(sa:Option Addr)(scap:Nat)(ra:Option Addr)(rcap:Nat)(ob owk ow:Option Addr)(bk:Nat)(sb:ZO)(N:Nat)(F:Nat->Nat->ByteArray)(ms:List MD)(es:List Nat):List SP :=
 [Zd pb (X7 V txg root live (.slice sa l.length scap) (.slice ra V.ds.length rcap) (.pointer ob) (.pointer owk) (.pointer ow)) 82,Zw 125 15 sa l.length scap (Ye l),Zw 92 2 ra V.ds.length rcap (YU V.ds.length),ZV bk sb V.secs ms es,ZE V N F,X9 sb]
def Kh(V:VD)(pb txg:Nat)(root live:Nd)(l:List Sn)(K:KS)(C:Nat):SP:=λ h=>∃ sa scap ra rcap ob owk ow bk sb N F ms es,(Qu V sb K C N F ms/\C<=1000000000)/\Zh8 bk ob owk ow/\star (yI V pb txg root live l sa scap ra rcap ob owk ow bk sb N F ms es) h
def Zlc(V:VD)(K:KS)(ms:List MD):Prop:=∀ p t,K p t->∀ g u,Xy V.s p g u->V.us ms g u
def WkL(V:VD)(pb txg:Nat)(root live:Nd)(l:List Sn)(sa:Option Addr)(scap:Nat)(ra:Option Addr)(rcap:Nat)(bb wb:Nat)(sb:ZO)(ms:List MD)(es:List Nat)(wk st0 st:Nat)(mt:Bool)(live':Nd)(l':List Sn)(sa':Option Addr)(scap':Nat)(ra':Option Addr)(rcap':Nat)(K':KS)(C:Nat):List SP :=
 [Zd pb (X7 V txg root live (.slice sa l.length scap) (.slice ra V.ds.length rcap) (pV bb) (pV wk) (pV wb)) 82,Zw 125 15 sa l.length scap (Ye l),Zw 92 2 ra V.ds.length rcap (YU V.ds.length),ZV wb sb V.secs ms es,
  Zd wk (J8 st0 live' (.slice sa' l'.length scap') (.slice ra' V.ds.length rcap')) 188,Zw 125 15 sa' l'.length scap' (Ye l'),Zw 92 2 ra' V.ds.length rcap' (YU V.ds.length),Qe V st bb sb (txg+1) 40 mt K' C]
def yL(V:VD)(pb txg:Nat)(root live:Nd)(l:List Sn)(K:KS)(wk:Nat)(fresh:Bool)(live':Nd)(l':List Sn)(K':KS)(C:Nat):SP:=λ h=>∃ sa scap ra rcap bb wb sb ms es st0 st mt sa' scap' ra' rcap',(X6 sb V.s/\Zlc V K ms/\C<=1000000000/\(fresh=true->st0=st/\mt=false))/\star (WkL V pb txg root live l sa scap ra rcap bb wb sb ms es wk st0 st mt live' l' sa' scap' ra' rcap' K' C) h
section
variable{V:VD}{pb txg:Nat}{root live:Nd}{l:List Sn}{K:KS}{C:Nat}
theorem Bt.po{W w:World}{h:Hl}{L:List SP}(B:Bt W h (Kh V pb txg root live l K C::L) w):∃ sa scap ra rcap ob owk ow bk sb N F ms es,(Qu V sb K C N F ms/\C<=1000000000)/\Zh8 bk ob owk ow/\Bt W h (yI V pb txg root live l sa scap ra rcap ob owk ow bk sb N F ms es++L) w:=by
 obtain⟨sa,B⟩:=B.ex;obtain⟨scap,B⟩:=B.ex;obtain⟨ra,B⟩:=B.ex;obtain⟨rcap,B⟩:=B.ex;obtain⟨ob,B⟩:=B.ex;obtain⟨owk,B⟩:=B.ex;obtain⟨ow,B⟩:=B.ex;obtain⟨bk,B⟩:=B.ex;obtain⟨sb,B⟩:=B.ex;obtain⟨N,B⟩:=B.ex;obtain⟨F,B⟩:=B.ex;obtain⟨ms,B⟩:=B.ex;obtain⟨es,B⟩:=B.ex;obtain⟨e1,B⟩:=B.pure;obtain⟨e2,B⟩:=B.pure;exact⟨sa,scap,ra,rcap,ob,owk,ow,bk,sb,N,F,ms,es,e1,e2,B.flat⟩
theorem Bt.wk{W w:World}{h:Hl}{L:List SP}{wk:Nat}{fresh:Bool}{live':Nd}{l':List Sn}{K':KS}(B:Bt W h (yL V pb txg root live l K wk fresh live' l' K' C::L) w):∃ sa scap ra rcap bb wb sb ms es st0 st mt sa' scap' ra' rcap',(X6 sb V.s/\Zlc V K ms/\C<=1000000000/\(fresh=true->st0=st/\mt=false))/\Bt W h (WkL V pb txg root live l sa scap ra rcap bb wb sb ms es wk st0 st mt live' l' sa' scap' ra' rcap' K' C++L) w:=by
 obtain⟨sa,B⟩:=B.ex;obtain⟨scap,B⟩:=B.ex;obtain⟨ra,B⟩:=B.ex;obtain⟨rcap,B⟩:=B.ex;obtain⟨bb,B⟩:=B.ex;obtain⟨wb,B⟩:=B.ex;obtain⟨sb,B⟩:=B.ex;obtain⟨ms,B⟩:=B.ex;obtain⟨es,B⟩:=B.ex;obtain⟨st0,B⟩:=B.ex;obtain⟨st,B⟩:=B.ex;obtain⟨mt,B⟩:=B.ex;obtain⟨sa',B⟩:=B.ex;obtain⟨scap',B⟩:=B.ex;obtain⟨ra',B⟩:=B.ex;obtain⟨rcap',B⟩:=B.ex;obtain⟨e1,B⟩:=B.pure;exact⟨sa,scap,ra,rcap,bb,wb,sb,ms,es,st0,st,mt,sa',scap',ra',rcap',e1,B.flat⟩
def Us{α:Type _}(l:List α):List Nat->List α
 | []=>[]
 |i::is=>match l[i]? with
  |some a=>a::Us l is
  |none=>Us l is
theorem V4{α:Type _}(l:List α):∀ is,Us l is=is.filterMap λ i=>l[i]?
 | []=>rfl
 |i::is=>by
  unfold Us;rw [List.filterMap_cons,V4 l is];cases l[i]?<;>rfl
theorem jh{α:Type _}:∀ l:List α,(List.range l.length).filterMap (λ i=>l[i]?)=l
 | []=>rfl
 |a::l=>by
  rw [List.length_cons,List.range_succ_eq_map,List.filterMap_cons,List.filterMap_map];exact congrArg (List.cons a) (jh l)
theorem Bt.ord{W w:World}{h:Hl}{l:List SP}(B:Bt W h l w)(is:List Nat)(e:is.isPerm (List.range l.length)=true):Bt W h (Us l is) w:=by
 refine B.perm ?_;rw [V4];have h1:=(List.isPerm_iff.1 e).filterMap λ i=>l[i]?
 rw [jh]at h1;exact h1.symm
theorem Zdm{W w:World}{h:Hl}{l:List SP}{bk:Nat}{sb:ZO}{secs:Int}{ms:List MD}{es:List Nat}(B:Bt W h l w){i:Nat}(e:l[i]?=some (ZV bk sb secs ms es)):YK bk sb secs ms es w:=by
 obtain⟨h0,p,j⟩:=B.mem e;exact⟨⟨h0,p,j⟩⟩
theorem Yo{W w:World}{h:Hl}{l:List SP}{t:TypeId}{z n cap:Nat}{ad:Option Addr}{L:List (List Value)}(B:Bt W h l w){i:Nat}(e:l[i]?=some (Zw t z ad n cap L)):Zy z ad n cap L w/\n<=cap/\(ad=none->cap=0):=by
 obtain⟨h0,p,j⟩:=B.mem e;refine⟨p.rd w,p.cap,λ h=>?_⟩;rcases p.2.2 with ⟨_,_,c⟩|⟨g,e,_⟩
 ·exact c
 ·rw [h]at e;cases e
theorem Zc9{ss sl:Value}{ob owk ow:Option Addr}{bk:Nat}(pv:Zh8 bk ob owk ow) :
  Tq 21 #[pV pb,.pointer owk] (Zd pb (X7 V txg root live ss sl (.pointer ob) (.pointer owk) (.pointer ow)) 82) λ _ q=>q=Zd pb (X7 V txg root live ss sl (pV bk) (.pointer none) (.pointer ow)) 82:=by
 rcases pv with ⟨rfl,rfl⟩|⟨wk,rfl,rfl⟩
 ·refine Tq.of λ W h B=>?_
  refine(Zgz V pb txg root live ss sl (pV bk) (.pointer ow) W).mono ?_;rintro e w ⟨⟨v,rfl⟩,g,rfl⟩;exact⟨_,_,rfl,rfl,Bt.fin⟩
 ·exact Zdg V pb wk txg root live ss sl ob _
theorem ZaW(tx:Nat)(hx:tx=txg+1)(ht:txg<=4294967294)(hl:l.length<=4) :
  Tq 156 #[pV pb] (Kh V pb txg root live l K C) λ v q=>∃ wk,v=.tuple #[pV wk,.int .i64 0]/\q=yL V pb txg root live l K wk true live l K C:=by
 refine Tq.of λ W h B0=>?_
 obtain⟨sa,scap,ra,rcap,ob,owk,ow,bk,sb,N,F,ms,es,⟨ok,hC⟩,pv,B⟩:=B0.po;clear B0;simp only [yI,List.cons_append,List.nil_append]at B
 have hdn:V.ds.length<=100:=by
  haveI:=Z0 (i:=4) B rfl;exact(Zo V F W).1.le
 have hx':(txg:Int)+1=tx:=by omega
 have DN:∀ w,[Zh w pb (X7 V txg root live (.slice sa l.length scap) (.slice ra V.ds.length rcap) (.pointer ob) (.pointer owk) (.pointer ow))]->Fn 20 #[pV pb] w (.bool false):=λ w _=>j9 V pb txg root live _ _ _ _ _ w
 have DP:=Zc9 (V:=V) (pb:=pb) (txg:=txg) (root:=root) (live:=live) (ss:=.slice sa l.length scap) (sl:=.slice ra V.ds.length rcap) pv;have BC:=λ(w:World)(_:YK bk sb V.secs ms es w)=>qc bk sb V.secs ms es w
 have PS:=λ(wb:Nat)(w:World) (_:Zh w pb (X7 V txg root live (.slice sa l.length scap) (.slice ra V.ds.length rcap) (pV bk) (.pointer none) (pV wb)))=>zx V pb bk txg tx 40 hx' (by omega) root live _ _ _ _ w
 have MC:=λ(w:World) (_:Zy 15 sa l.length scap (Ye l) w) (_:Zy 2 ra V.ds.length rcap (YU V.ds.length) w)=>kY live sa scap l w V.ds.length ra rcap hl hdn
 clear hx'
 go_in
 go_wp2_with(with_reducible refine Fn.go λ g=>?_);refine(Bt.call DP).mono ?_;rintro e w1 ⟨v,q,rfl,rfl,B1⟩;dsimp only at B1 ⊢;go_wp2_with fail;haveI:=Zdm B1 (i:=3) rfl;refine(BC _ ii).mono ?_;rintro e w2 ⟨wb,ms',rfl,hal,hg,hn⟩;have B2:=B1.join hg hn;dsimp only;clear B B1 hg hn;go_wp2_with fail;refine Yn (W:=W) (h:=h) (l:=[ZV wb sb V.secs ms' es,Zd pb (X7 V txg root live (.slice sa l.length scap) (.slice ra V.ds.length rcap) (pV bk) (.pointer none) (pV wb)) 82,Zw 125 15 sa l.length scap (Ye l),Zw 92 2 ra V.ds.length rcap (YU V.ds.length),ZV bk sb V.secs ms es,ZE V N F,X9 sb]) ii ?_;clear B2;rintro w2 B2;refine plZ (.q [0,1,3,4,5,6] (.g 2 (.g 7 (.q [8] (.g 9 (.q [10,11] (.x [12] .d))))))) ?_;simp only [Zk.run,pick,gZ,gS,gA,gN]
 (repeat(first|((with_reducible apply Zc);(·exact rfl);(·rintro _ ⟨gq,rfl⟩;exact ii);go_frame)|go_big_quiet_step (exact qZ)));refine nZ ?_
 rintro w3 hw3;have B3:Bt W h _ w3:=Ze hw3;go_wp2_with fail;refine(PS wb _ ii).mono ?_;rintro e w4 ⟨st,rfl,hg,hn⟩;have B4:=B3.join hg hn;dsimp only;go_wp2_with fail;dsimp only [Nx];refine⟨yJ hw3 hg,?_⟩;clear hn hg hw3 B2 B3;rintro w5 hw5;have B5:Bt W h _ w5:=Ze hw5;clear B4;have r1:=Yo B5 (i:=3) rfl;have r2:=Yo B5 (i:=4) rfl;go_wp2_with fail;refine(MC _ r1.1 r2.1 r1.2.2 r2.2.2).mono ?_;rintro e w6 ⟨sa',scap',ra',rcap',rfl,hg,hn⟩;have B6:=B5.join hg hn;dsimp only;clear r1 r2;go_wp2_with fail;dsimp only [Nx];refine⟨yJ hw5 hg,?_⟩;clear hn hg hw5 B5
 (repeat go_big_quiet_step (exact qZ));refine nZ ?_
 rintro w7 hw7;have B7:Bt W h _ w7:=Ze hw7;clear B6;go_wp2_with fail;dsimp only [Nx];refine⟨Kw hw7 _,?_⟩;clear hw7
 (repeat go_big_quiet_step (exact qZ));refine nZ ?_
 refine Z4 ?_;intro w8 B8;clear B7;go_wp2_with fail;dsimp only [Nx];refine Z4 ?_;intro w9 B9;clear B8;go_wp2_with fail;go_ret2
 (first|apply Zv|apply Zu)
 have B10:Bt W h [Zd w7.heap.size (J8 st live (.slice sa' l.length scap') (.slice ra' V.ds.length rcap')) _,_,_,_,Zd pb (X7 V txg root live (.slice sa l.length scap) (.slice ra V.ds.length rcap) (pV bk) (pV w7.heap.size) (pV wb)) _,_,_,_,_,_] w9:=B9;have B11:Bt W h [Zd st (Qs V bk tx 40 false (.pointer none)) _,Ul (.pointer none) C,ZE V N F,X9 sb,ZV bk sb V.secs ms es,_,_,_,_,_,_] w9:=(B10.more (p:=Ul (.pointer none) C) (.inl ⟨rfl,hC⟩)).ord [2,10,8,9,7,1,0,3,4,5,6] (by kernel_rfl);have B12:Bt W h (Qe V st bk sb tx 40 false K C::_) w9:=(B11.app [_,_,_,_,_]).head λ h s=>⟨_,N,F,ms,es,ok,s⟩
 have B13:Bt W h [Zw _ _ _ _ _ _,Zw _ _ _ _ _ _,Qe V st bk sb tx 40 false K C,_,_,_,_,_] w9:=(B12.ord [1,0,2,3,4,5,6] (by kernel_rfl)).flat
 have B14:Bt W h (WkL V pb txg root live l sa scap ra rcap bk wb sb ms' es w7.heap.size st st false live l sa' scap' ra' rcap' K C++[]) w9:=by
  subst hx;exact B13.ord [5,6,7,4,3,0,1,2] (by kernel_rfl)
 refine⟨⟨w7.heap.size,rfl,rfl⟩,((B14.app _).head λ h s=>⟨sa,scap,ra,rcap,bk,wb,sb,ms',es,st,st,false,sa',scap',ra',rcap',⟨ok.same,λ p t hp g u hu=>?_,hC,λ _=>⟨rfl,rfl⟩⟩,s⟩).fin_at 0 rfl⟩;exact(ok.kept.used p t hp g u hu).imp id (hal.used g u).2
end
theorem Bt.oS{W w:World}{h:Hl}{l l':List SP}(B:Bt W h l w)(is:List Nat)(e:is.isPerm (List.range l.length)=true:=by kernel_rfl)(q:Us l is=l':=by(simp only [StL,yI,WkL,Us,List.getElem?_cons_zero,List.getElem?_cons_succ,List.cons_append,List.nil_append,List.append_nil]<;>exact rfl)):Bt W h l' w:=q▸B.ord is e
section
variable{V:VD}{pb txg:Nat}{root live:Nd}{l:List Sn}{K:KS}{C:Nat}{wk:Nat}{fresh:Bool}{live':Nd}{l':List Sn}{K':KS}
theorem Bt.po_shut{W w:World}{h:Hl}{L:List SP}{sa:Option Addr}{scap:Nat}{ra:Option Addr}{rcap:Nat}{ob owk ow:Option Addr}{bk:Nat}{sb:ZO}{N:Nat}{F:Nat->Nat->ByteArray}{ms:List MD}{es:List Nat}(ok:Qu V sb K C N F ms)(hC:C<=1000000000)(pv:Zh8 bk ob owk ow)
  (B:Bt W h (yI V pb txg root live l sa scap ra rcap ob owk ow bk sb N F ms es++L) w):Bt W h (Kh V pb txg root live l K C::L) w :=
 (B.app _).head λ h s=>⟨sa,scap,ra,rcap,ob,owk,ow,bk,sb,N,F,ms,es,⟨ok,hC⟩,pv,s⟩
theorem Zie(so:ZgG V.s V.secs l')(no:KH V.s V.secs live') :
  Tq 165 #[pV pb,pV wk] (yL V pb txg root live l K wk fresh live' l' K' C) λ v q=>v=.int .i64 0/\q=Kh V pb txg root live' l' K' C:=by
 refine Tq.of λ W h B0=>?_
 obtain⟨sa,scap,ra,rcap,bb,wb,sb,ms,es,st0,st,mt,sa',scap',ra',rcap',⟨ss,us,hC,_⟩,B⟩:=B0.wk;clear B0;have B2:=Bt.oS (B) [7,0,1,2,3,4,5,6];obtain⟨dn,N,F,ms',es',ok,B3⟩:=B2.opn;have B4:=Bt.oS (B3) [0,1,6,7,8,5,9,10,11,4,2,3];have B1:=B4.drop.drop.drop.drop.drop;clear B B2 B3 B4;haveI:=Z0 (i:=5) B1 rfl;obtain⟨vok,gm,_,_,_⟩:=Zo V F W;haveI:Ky V.s V.secs:=⟨vok.g⟩
 have hdn:=vok.le;have DN:∀ w,[Zh w pb (X7 V txg root live (.slice sa l.length scap) (.slice ra V.ds.length rcap) (pV bb) (pV wk) (pV wb))]->Fn 20 #[pV pb] w (.bool false):=λ w _=>j9 V pb txg root live _ _ _ _ _ w
 have r1:=Yo B1 (i:=2) rfl;have NE:=λ w=>Zjf w ⟨wk,0,none⟩
 have MR:∀ w,[GM V.s w]->[Zy 15 sa' l'.length scap' (Ye l') w]->[Zy 2 ra' V.ds.length rcap' (YU V.ds.length) w]->Fn 84 #[.agg #[.slice V.s.ad V.s.len V.s.cap,.int .i64 V.secs],.agg (mC live' (.slice sa' l'.length scap') (.slice ra' V.ds.length rcap'))] w (.bool true):=λ w _ _ _=>U6 V.s V.secs w live' sa' scap' l' V.ds.length ra' rcap' so r1.2.1 no vok.n.symm
 have MC:=λ(w:World) (_:Zy 15 sa' l'.length scap' (Ye l') w) (_:Zy 2 ra' V.ds.length rcap' (YU V.ds.length) w)=>kY live' sa' scap' l' w V.ds.length ra' rcap' so.len hdn
 clear r1;have r1:=(Yo B1 (i:=2) rfl).1;have r2:=(Yo B1 (i:=3) rfl).1
 go_in
 go_wp2_with(with_reducible refine Fn.go λ g=>?_);refine plZ (.q [0,1,2,3,4,5,6,7,8] (.x [9] (.q [10,11] .d))) ?_;simp only [Zk.run,pick,gZ,gS,gA,gN]
 (repeat(first|((with_reducible apply Zc);(·exact rfl);(·rintro _ ⟨gq,rfl⟩;exact ii);go_frame)|go_big_quiet_step (exact qZ)));refine nZ ?_
 rintro w1 hw1;have B2:Bt W h _ w1:=Ze hw1;haveI:GM V.s w1:=by obtain⟨g,rfl⟩:=hw1;infer_instance
 haveI:Zy 15 sa' l'.length scap' (Ye l') w1:=by obtain⟨g,rfl⟩:=hw1;infer_instance
 haveI:Zy 2 ra' V.ds.length rcap' (YU V.ds.length) w1:=by obtain⟨g,rfl⟩:=hw1;infer_instance
 clear hw1;go_wp2_with(with_reducible refine Fn.go λ g=>?_);dsimp only [Nx]
 (repeat go_big_quiet_step (exact qZ));refine nZ ?_
 rintro w2 hw2;have B3:Bt W h _ w2:=Ze hw2;haveI:Zy 15 sa' l'.length scap' (Ye l') w2:=by obtain⟨g,rfl⟩:=hw2;infer_instance
 haveI:Zy 2 ra' V.ds.length rcap' (YU V.ds.length) w2:=by obtain⟨g,rfl⟩:=hw2;infer_instance
 clear hw2 B2 B1 r1 r2;have r1:=Yo B3 (i:=2) rfl;have r2:=Yo B3 (i:=3) rfl;go_wp2_with((with_reducible apply Za);(·exact rfl);(·exact ii));refine(MC _ ii ii r1.2.2 r2.2.2).mono ?_;rintro e w3 ⟨sa2,scap2,ra2,rcap2,rfl,hg,hn⟩;have B4:=B3.join hg hn;clear hn hg r1 r2 B3;dsimp only;go_wp2_with((with_reducible apply Zb);(·exact rfl);(·exact rfl);(·exact ii));go_ret
 (first|apply Zv|apply Zu)
 have fin:∀ w9,Bt W h [star [Zw 125 15 sa2 l'.length scap2 (Ye l'),Zw 92 2 ra2 V.ds.length rcap2 (YU V.ds.length)],Zd pb (X7 V txg root live' (.slice sa2 l'.length scap2) (.slice ra2 V.ds.length rcap2) (pV bb) (.pointer none) (pV wb)) 82,Zd wk (J8 st0 live' (.slice sa' l'.length scap') (.slice ra' V.ds.length rcap')) 188,Zw 125 15 sa' l'.length scap' (Ye l'),Zw 92 2 ra' V.ds.length rcap' (YU V.ds.length),ZV bb sb V.secs ms' es',ZE V N F,X9 sb] w9->Zg W h (Kh V pb txg root live' l' K' C) w9:=λ w9 B9=>by
  have B10:=Bt.oS (B9.flat) [2,0,1,6,7,8,3,4,5];exact(Bt.po_shut (sa:=sa2) (scap:=scap2) (ra:=ra2) (rcap:=rcap2) (ob:=some ⟨bb,0,none⟩) (owk:=none) (ow:=some ⟨wb,0,none⟩) (bk:=bb) (es:=es') ok hC (.inl ⟨rfl,rfl⟩) B10).fin_at 0 rfl
 exact⟨⟨rfl,rfl⟩,fin _ ii⟩
theorem Zjv(hK:K.le K') :
  Tq 21 #[pV pb,pV wk] (yL V pb txg root live l K wk fresh live' l' K' C) λ _ q=>q=Kh V pb txg root live l K C:=by
 refine Tq.of λ W h B0=>?_
 obtain⟨sa,scap,ra,rcap,bb,wb,sb,ms,es,st0,st,mt,sa',scap',ra',rcap',⟨ss,us,hC,_⟩,B⟩:=B0.wk;clear B0;have B2:=Bt.oS (B) [7,0,1,2,3,4,5,6];obtain⟨dn,N,F,ms',es',ok,B3⟩:=B2.opn;have B1:=Bt.oS (B3) [5,6,7,8,9,10,11,0,1,2,3,4];clear B B2 B3;have P:=Zdg V pb wk txg root live (.slice sa l.length scap) (.slice ra V.ds.length rcap) (some ⟨bb,0,none⟩) (some ⟨wb,0,none⟩);refine(Bt.call P).mono ?_;rintro e w4 ⟨v,q,rfl,rfl,B4⟩;have B5:=Bt.oS (B4) [0,1,2,3,9,10,4,5,6,7,8,11];exact⟨_,_,rfl,rfl,(Bt.po_shut (sa:=sa) (scap:=scap) (ra:=ra) (rcap:=rcap) (ob:=some ⟨wb,0,none⟩) (owk:=none) (ow:=some ⟨wb,0,none⟩) (bk:=wb) (es:=es) ⟨ss,⟨λ p t hp=>ok.kept.held p t (hK p t hp),us,λ p q t t' hp hq=>ok.kept.apart p q t t' (hK p t hp) (hK q t' hq)⟩,ok.bd,ok.ring,ok.ro⟩ hC (.inl ⟨rfl,rfl⟩) B5).fin_at 0 rfl⟩
end
structure Um(K:KS)(txg:Nat)(l:List Sn):Prop where
 len:l.length<=4
 id:∀ x∈l,0<=x.id/\x.id<=99
 txg:∀ x∈l,1<=x.txg/\x.txg<=(txg:Int)+1
 dir:∀ x∈l,∃ g,Ob K x.dir g
 up:∀(k:Nat)(x y:Sn),l[k]?=some x->l[k+1]?=some y->x.txg<=y.txg
 ne:∀(j k:Nat)(x y:Sn),l[j]?=some x->l[k]?=some y->j<k->x.id≠y.id
theorem Um.mono{K K':KS}{txg txg':Nat}{l:List Sn}(s:Um K txg l)(h:K.le K')(ht:txg<=txg'):Um K' txg' l :=
 ⟨s.len,s.id,λ x hx=>by have:=s.txg x hx;omega,λ x hx=>by obtain⟨g,o⟩:=s.dir x hx;exact⟨g,o.mono h⟩,s.up,s.ne⟩
theorem j5{s:ZO}{secs:Int}{K:KS}{n:Nd}{g:Nat->UInt8}(hK:∀ p t,K p t->J9 s secs p)(o:Ob K n g):KH s secs n:=by
 refine⟨o.sz,?_⟩;rcases o.tr.lv with h|⟨h1,h2,t,h3⟩
 ·exact .inl (by rw [h];exact Pt.none_isNone)
 ·refine .inr ⟨h1,hK _ t h3,?_⟩;rw [h2];have:=Ks n.size;omega
theorem Um.ok{s:ZO}{secs:Int}{K:KS}{txg:Nat}{l:List Sn}(d:Um K txg l)(hK:∀ p t,K p t->J9 s secs p)(ht:txg+1<=4294967295):ZgG s secs l :=
 ⟨d.len,d.id,λ x hx=>by have:=d.txg x hx;omega,λ x hx=>by obtain⟨g,o⟩:=d.dir x hx;exact j5 hK o,d.up,d.ne⟩
section
variable{V:VD}{pb txg:Nat}{root live:Nd}{l:List Sn}{K:KS}{C:Nat}{wk:Nat}{fresh:Bool}{live':Nd}{l':List Sn}{K':KS}
theorem yL.ptok{h:Hl}(s:yL V pb txg root live l K wk fresh live' l' K' C h):∀ p t,K' p t->J9 V.s V.secs p:=by
 obtain⟨sa,scap,ra,rcap,bb,wb,sb,ms,es,st0,st,mt,sa',scap',ra',rcap',_,s⟩:=s;obtain⟨h1,⟨dn,N,F,ms',es',ok,_⟩,_⟩:=s.get (i:=7) rfl;exact λ p t hp=>(ok.kept.held p t hp).ok
theorem ZfA(ho:∃ g,Ob K' live' g)(sn:Um K' txg l')(ht:txg+1<=4294967295) :
  Tq 165 #[pV pb,pV wk] (yL V pb txg root live l K wk fresh live' l' K' C) λ v q=>v=.int .i64 0/\q=Kh V pb txg root live' l' K' C:=λ W h i s=>by
 obtain⟨g,o⟩:=ho;exact Zie (sn.ok s.ptok ht) (j5 s.ptok o) W h i s
theorem Kh.cells{h:Hl}(s:Kh V pb txg root live l K C h)(W:World)[Has W h]:∃ ss sl b work was,Zh W pb (X7 V txg root live ss sl b work was):=by
 obtain⟨sa,scap,ra,rcap,ob,owk,ow,bk,sb,N,F,ms,es,_,_,s⟩:=s;obtain⟨h1,p,s1⟩:=s.get (i:=0) rfl;exact⟨_,_,_,_,_,⟨_,(Has.get _ _ (s1 _ _ p))⟩⟩
theorem Zi1{h:Hl}(s:Kh V pb txg root live l K C h)(W:World)[Has W h]:Fn 20 #[pV pb] W (.bool false):=by
 obtain⟨ss,sl,b,work,was,_⟩:=s.cells W;exact j9 V pb txg root live ss sl b work was W
def Vt(id:Int):Int:=if 0<=id/\id<32 then 0 else 1
set_option maxRecDepth 512 in
theorem Vo(id:Int)(W:World)(p:In (Kh V pb txg root live l K C) W):Fn 98 #[pV pb,.int .i64 id] W (.int .i64 (Vt id)):=by
 refine⟨?_⟩;obtain⟨h,s,hw⟩:=p.ex;have DN:∀ w,[Has w h]->Fn 20 #[pV pb] w (.bool false):=λ w _=>Zi1 s w
 unfold Vt
 by_cases h0:id<0
 ·rw [if_neg (by omega)]
  go_in
  go_wp2_with(with_reducible refine Fn.go λ g=>?_);go_ret;exact ZM.mk rfl grown
 ·by_cases h1:id<32
  ·rw [if_pos (by omega)]
   go_in
   go_wp2_with(with_reducible refine Fn.go λ g=>?_);go_ret;exact ZM.mk rfl grown
  ·rw [if_neg (by omega)]
   go_in
   go_wp2_with(with_reducible refine Fn.go λ g=>?_);go_ret;exact ZM.mk rfl grown
def ChR(V:VD)(pb txg:Nat)(root live:Nd)(l:List Sn)(K:KS)(C:Nat)(X:SP)(P:Nd->List Sn->KS->Prop)(v:Value)(q:SP):Prop :=
 (∃ e:Int,e≠0/\v=.int .i64 e/\q=star [Kh V pb txg root live l K C,X])\/∃ live' l' K',v=.int .i64 0/\K.le K'/\P live' l' K'/\q=star [Kh V pb txg root live' l' K' C,X]
def ZhP(V:VD)(pb txg:Nat)(root live:Nd)(l:List Sn)(K:KS)(wk C:Nat)(X:SP)(P:Nd->List Sn->KS->Prop)(v:Value)(q:SP):Prop :=
 (∃(e:Int)(live':Nd)(l':List Sn)(K':KS),e≠0/\v=.int .i64 e/\K.le K'/\q=star [yL V pb txg root live l K wk false live' l' K' C,X]) \/
 ∃ live' l' K',v=.int .i64 0/\K.le K'/\((∃ g,Ob K' live' g)/\Um K' txg l')/\P live' l' K'/\q=star [yL V pb txg root live l K wk false live' l' K' C,X]
theorem Ki(ht:txg+1<=4294967295)(hl:l.length<=4){C':Nat}{X:SP}{P:Nd->List Sn->KS->Prop}(fid:FuncId)(qf:XB Tryz.prog fid=true)(caps:Array Value)
  (A:∀ wk,Tq fid (#[pV wk]++caps) (star [yL V pb txg root live l K wk true live l K C,X]) (ZhP V pb txg root live l K wk C' X P)) :
  Tq 99 #[pV pb,.func (.func fid) #[] caps] (star [Kh V pb txg root live l K C,X]) (ChR V pb txg root live l K C' X P):=by
 refine Tq.of λ W h B0=>?_
 have B:=B0.flat;clear B0;simp only [List.append_nil]at B;have HC:=λ args w=>Z9 (P:=Tryz.prog) qf args w
 have BG:=ZaW (V:=V) (pb:=pb) (root:=root) (live:=live) (K:=K) (C:=C) (txg+1) rfl (by omega) hl
 go_in
 go_wp2_with fail;refine(Bt.call BG).mono ?_;rintro e w1 ⟨v,q,rfl,⟨wk,rfl,rfl⟩,B1⟩;clear B BG;dsimp only;go_wp2_with fail;haveI B2:Bt W h [star [yL V pb txg root live l K wk true live l K C,X]] w1:=B1.app [_,_];refine(Bt.call (A wk)).mono ?_;rintro e w2 ⟨v,q,rfl,hR,B3⟩;clear B1 B2 A;dsimp only;rcases hR with ⟨e,live',l',K',he,rfl,hK,rfl⟩|⟨live',l',K',rfl,hK,⟨ho,sn⟩,hP,rfl⟩
 ·have B4:Bt W h [_,_] w2:=B3.flat;clear B3;have DW:=Zjv (V:=V) (pb:=pb) (txg:=txg) (root:=root) (live:=live) (l:=l) (C:=C') (wk:=wk) (fresh:=false) (live':=live') (l':=l') hK;go_wp2_with fail;refine(Bt.call DW).mono ?_;rintro e w3 ⟨v,q,rfl,rfl,B5⟩;dsimp only;go_wp2_with fail;go_ret
  (first|apply Zv|apply Zu)
  exact⟨.inl ⟨_,he,rfl,rfl⟩,(B5.app [_,_]).fin_at 0 rfl⟩
 ·have B4:Bt W h [_,_] w2:=B3.flat;clear B3;have KP:=ZfA (V:=V) (pb:=pb) (root:=root) (live:=live) (l:=l) (K:=K) (C:=C') (wk:=wk) (fresh:=false) ho sn ht;go_wp2_with fail;refine(Bt.call KP).mono ?_;rintro e w3 ⟨v,q,rfl,⟨rfl,rfl⟩,B5⟩;dsimp only;go_wp2_with fail;go_ret
  (first|apply Zv|apply Zu)
  exact⟨.inr ⟨live',l',K',rfl,hK,hP,rfl⟩,(B5.app [_,_]).fin_at 0 rfl⟩
end
theorem Zjc{g:Nat->UInt8}{n:Nd}{m:Nat}{t:ByteArray}{g0:Nat->UInt8}(hz:n.size=m)(ht:ZH t=g0)(hg:g=Kg g0 m):yT t m=txt g 0 n.size.toNat:=by
 rw [hz,hg,Int.toNat_natCast];refine Qv (n:=m) (YA ..) (YA ..) λ j hj=>?_
 rw [yT,Ja hj,Ja hj,ht,Kg,if_pos (by omega)]
theorem ZkW{n:Nd}{z off:Nat}{t s:ByteArray}{g0:Nat->UInt8}(hz:n.size=(max z (off+s.size):Nat))(h0:s.size≠0)(htz:t.size=z)(ht:ZH t=g0):qE t off s=txt (jD g0 off s) 0 n.size.toNat:=by
 unfold qE;rw [hz,Int.toNat_natCast,if_neg h0,htz,ht]
theorem ZcW{t s:ByteArray}{off:Nat}(h0:s.size=0):qE t off s=t:=by
 unfold qE;rw [if_pos h0];refine Qv (n:=t.size) (by rw [YA];omega) rfl λ j hj=>?_
 rw [Ja (by omega),Nat.zero_add,jD,if_neg (by omega)]
section
variable{st:Nat}{S:KS->Nat->SP}(T:VT st S)
include T
theorem ZjE{K:KS}{c:Nat}{h:Hl}(hS:S K c h){n:Nd}{g:Nat->UInt8}(o:Ob K n g):Yv n:=by
 refine⟨o.sz.1,by have:=o.sz.2;omega,?_⟩;rcases o.tr.lv with h1|⟨_,_,t,h3⟩
 ·rw [h1];exact⟨by kernel_rfl,QX⟩
 ·exact(T.fit _ _ _ _ _ hS h3).h
theorem Zgv(K:KS)(c:Nat){m:Nd}{t:ByteArray}(ot:yG K m t)(off:Int)(s:ByteArray)(hs:s.size<=16384)(hc:70000<=c) :
  Tq 65 #[Jv st,.agg m.cs,.int .i64 off,.string s] (S K c) (RN S K (c-70000) λ n' K'=>∃ o:Nat,off=o/\o+s.size<=16384/\yG K' n' (qE t o s)):=by
 obtain⟨g,o,ht⟩:=ot;have hb:=Zkn o;rw [<-ht]at hb;obtain⟨z0,z1⟩:=o.sz;obtain⟨z,r⟩:=m;obtain⟨z,rfl⟩:=Int.eq_ofNat_of_zero_le z0;have htz:t.size=z:=by rw [ht,YA];simp
 by_cases h:0<=off/\off+s.size<=16384
 ·obtain⟨h1,h2⟩:=h;obtain⟨o',rfl⟩:=Int.eq_ofNat_of_zero_le h1
  by_cases h0:s.size=0
  ·have hne:s.toList.isEmpty=true:=by
    have:s.data.toList=[]:=List.eq_nil_of_length_eq_zero (by rw [Zi];exact h0);rw [ByteArray.toList_eq,this];rfl
   have F:RN S K (c-70000) (λ n' K'=>∃ o:Nat,(o':Int)=o/\o+s.size<=16384/\yG K' n' (qE t o s)) (.tuple #[.agg (Nd.mk z r).cs,.int .i64 0]) (S K (c-70000)):=.inr ⟨_,K,rfl,rfl,KS.le.refl K,o',rfl,by omega,by rw [ZcW h0];exact⟨g,o,ht⟩⟩;have HF:=Lib.hid F;refine Tq.of λ W h B=>?_
   have h3:¬ (16384-(o':Int)<s.size):=by omega
   clear F ht hb htz o h0
   go_in
   go_wp2_with((with_reducible apply Za);(·exact rfl);(·exact ii))
   (refine bodyPost_ret (YR rfl _ _ _ _ rfl ii) rfl ?_)
   (first|apply Zv|apply Zu)
   exact⟨HF.out,(Bt.fin (p:=S K c)).mono λ h q=>T.less _ _ _ (by omega) h q⟩
  ·refine(qP T K c o o' s h0 (by omega) hc).mono λ v q hq=>⟨q,?_,λ _ h=>h⟩
   rcases hq with ⟨e,he,h3,h4⟩|⟨p,K',h3,h4,h5,h6,h7⟩
   ·exact .inl ⟨e,he,h3,h4⟩
   ·exact .inr ⟨p,K',h3,h4,h5,o',rfl,by omega,_,h7,ZkW h6 h0 htz hb⟩
 ·have F:RN S K (c-70000) (λ n' K'=>∃ o:Nat,off=o/\o+s.size<=16384/\yG K' n' (qE t o s)) (.tuple #[.agg Nd.none.cs,.int .i64 1]) (S K (c-70000)):=.inl ⟨1,by decide,rfl,rfl⟩;have HF:=Lib.hid F;refine Tq.of λ W h B=>?_
  clear F ht hb htz o
  by_cases h1:off<0
  ·go_in
   go_wp2_with(with_reducible apply Zj)
   (refine bodyPost_ret (YR rfl _ _ _ _ rfl ii) rfl ?_)
   (first|apply Zv|apply Zu)
   exact⟨HF.out,(Bt.fin (p:=S K c)).mono λ h q=>T.less _ _ _ (by omega) h q⟩
  ·by_cases h2:16384<off
   ·go_in
    go_wp2_with(with_reducible apply Zj)
    (refine bodyPost_ret (YR rfl _ _ _ _ rfl ii) rfl ?_)
    (first|apply Zv|apply Zu)
    exact⟨HF.out,(Bt.fin (p:=S K c)).mono λ h q=>T.less _ _ _ (by omega) h q⟩
   ·have h3:16384-off<s.size:=by omega
    go_in
    go_wp2_with(with_reducible apply Zj)
    (refine bodyPost_ret (YR rfl _ _ _ _ rfl ii) rfl ?_)
    (first|apply Zv|apply Zu)
    exact⟨HF.out,(Bt.fin (p:=S K c)).mono λ h q=>T.less _ _ _ (by omega) h q⟩
theorem ZkL(K:KS)(c:Nat){m:Nd}{t:ByteArray}(ot:yG K m t)(size:Int)(hc:30<=c) :
  Tq 97 #[Jv st,.agg m.cs,.int .i64 size] (S K c) (RN S K (c-30) λ n' K'=>∃ o:Nat,size=o/\o<=16384/\yG K' n' (yT t o)):=by
 obtain⟨g,o,ht⟩:=ot;have hb:=Zkn o;rw [<-ht]at hb;obtain⟨z0,z1⟩:=o.sz;obtain⟨z,r⟩:=m;obtain⟨z,rfl⟩:=Int.eq_ofNat_of_zero_le z0
 by_cases h:0<=size/\size<=16384
 ·obtain⟨h1,h2⟩:=h;obtain⟨o',rfl⟩:=Int.eq_ofNat_of_zero_le h1;refine(ZbD T K c o o' (by omega) hc).mono λ v q hq=>⟨q,?_,λ _ h=>h⟩
  rcases hq with ⟨e,he,h3,h4⟩|⟨p,K',h3,h4,h5,h6,h7⟩
  ·exact .inl ⟨e,he,h3,h4⟩
  ·exact .inr ⟨p,K',h3,h4,h5,o',rfl,by omega,_,h7,Zjc h6 hb rfl⟩
 ·have F:RN S K (c-30) (λ n' K'=>∃ o:Nat,size=o/\o<=16384/\yG K' n' (yT t o)) (.tuple #[.agg Nd.none.cs,.int .i64 1]) (S K (c-30)):=.inl ⟨1,by decide,rfl,rfl⟩;have HF:=Lib.hid F;refine Tq.of λ W h B=>?_
  clear F ht hb o
  by_cases h1:size<0
  ·go_in
   go_wp2_with(with_reducible apply Zj)
   (refine bodyPost_ret (YR rfl _ _ _ _ rfl ii) rfl ?_)
   (first|apply Zv|apply Zu)
   exact⟨HF.out,(Bt.fin (p:=S K c)).mono λ h q=>T.less _ _ _ (by omega) h q⟩
  ·have h2:16384<size:=by omega
   go_in
   go_wp2_with(with_reducible apply Zj)
   (refine bodyPost_ret (YR rfl _ _ _ _ rfl ii) rfl ?_)
   (first|apply Zv|apply Zu)
   exact⟨HF.out,(Bt.fin (p:=S K c)).mono λ h q=>T.less _ _ _ (by omega) h q⟩
end
section
variable{P:Program}{ops:Array Oper}{md:Region.Mode}{Q:Exit->Act->World->Prop}{C H:World->Prop}
theorem Ze9{loud soft:List Nat}{i:Nat}{oi:Oper}{v:Value}(hi:ops[i]?=some oi)(hil:i ∉ loud)(hsel:∀(j:Nat)(o:Oper) cs b,ops[j]?=some o->o.op≠.select cs b) :
  ∀(f:Nat)(C:World->Prop)(listed:Array Bool)(a:Act),Closed md ops listed ->
   (∀ j oj,ops[j]?=some oj->j≠i->listed.getD j true=false->(∀ e∈oj.after,Region.binds md e=true->e.on≠i)->oi.apart ops oj=true) ->
   i∈Region.ready md ops listed->(∀ D:World->Prop,YieldsIn P ops D oi v a) ->
   qj P md ops loud soft H Q f C (listed.setIfInBounds i true) (a.put oi.dst v)->qj P md ops loud soft H Q (f+1) C listed a:=by
 intro f
 induction f with
 |zero =>
  intro C listed a _ _ hr hy K;refine⟨λ h=>(by rw [h]at hr;cases hr),λ j hj=>?_⟩
  by_cases hji:j=i
  ·subst hji;rw [if_neg hil];exact(hy C).qOp hi K
  ·have:=ready_mono hj hji;rw [K.1]at this;cases this
 |succ f ih =>
  intro C listed a hcl hfree hr hy K;refine⟨λ h=>(by rw [h]at hr;cases hr),λ j hj=>?_⟩
  by_cases hji:j=i
  ·subst hji;rw [if_neg hil];exact(hy C).qOp hi K
  ·have h1:=K.2 j (ready_mono hj hji);obtain⟨hjun,oj,hoj,hall⟩:=mem_ready.1 hj;have hiun:=getD_both (mem_ready.1 hr).1
   have hnot:∀ e∈oj.after,Region.binds md e=true->e.on≠i:=λ e he hb heq=>by
    have h1:=hall e he hb;rw [heq,hiun]at h1;cases h1
   have hap:=hfree j oj hoj hji hjun hnot;have h3:=(Oper.apart_spec hap).2.2;have hsi:∀ cs b,oi.op≠.select cs b:=λ cs b=>hsel i oi cs b hi
   have hfree':∀ k ok,ops[k]?=some ok->k≠i->(listed.setIfInBounds j true).getD k true=false ->
     (∀ e∈ok.after,Region.binds md e=true->e.on≠i)->oi.apart ops ok=true:=λ k ok hk hki hun hno=>by
    refine hfree k ok hk hki ?_ hno
    by_cases hjk:j=k
    ·subst hjk;exact hjun
    ·rw [getD_set_ne true hjk]at hun;exact hun
   have hcl':=hcl.set hj;have hr':=ready_mono hr (Ne.symm hji)
   by_cases hjl:j∈loud
   ·rw [if_pos hjl]at h1 ⊢;intro w hw;refine wpOp_mono (λ a' w' h5=>?_) (zH (Y:=λ a'=>∀ D:World->Prop,YieldsIn P ops D oi v a') hoj hap (λ cs b=>hsel j oj cs b hoj) (λ u l D=>Xr hsi h3 (hy D) u l) (h1 w hw));obtain⟨hy5,D,hD,hg,h5⟩:=h5;refine⟨D,hD,hg,ih D (listed.setIfInBounds j true) a' hcl' hfree' hr' hy5 ?_⟩;rw [Array.setIfInBounds_comm _ _ hji];exact h5
   ·rw [if_neg hjl]at h1 ⊢;refine qOp_mono (λ a' h5=>ih C (listed.setIfInBounds j true) a' hcl' hfree' hr' h5.1 ?_) (Uj (Y:=λ a'=>∀ D:World->Prop,YieldsIn P ops D oi v a') hoj hap (λ cs b=>hsel j oj cs b hoj) (λ u D=>Xr hsi h3 (hy D) u a.defers) h1);rw [Array.setIfInBounds_comm _ _ hji];exact h5.2
def Zk.runC(P:Program)(ops:List Oper)(Q:Exit->Act->World->Prop)(soft:List Nat):Zk->(World->Prop)->(World->Prop)->Act->Prop
 | .d,_,C,a=>∀ w,C w->Q .normal a w
 | .q l n,H,C,a=>wpQuiet P ops.toArray C (n.runC P ops Q soft H C) (pick ops l) a
 | .f l n,H,C,a=>wpQuiet P ops.toArray H (n.runC P ops Q soft H C) (pick ops l) a
 | .c i n,H,C,a=>wpQuiet P ops.toArray (λ _=>True) (n.runC P ops Q soft H C) (pick ops [i]) a
 | .x l n,H,C,a=>∀ w,C w->wpList P ops.toArray (Nx λ a' w'=>∃ H':World->Prop,(GC H'/\∀ v,H' v->H v)/\(l.all soft.contains=true->H' w')/\n.runC P ops Q soft H' (YL w') a') (pick ops l) a w
 | .y i j n m,H,C,a=>(∀ w,C w->wpList P ops.toArray (Nx λ a' w'=>∃ H':World->Prop,(GC H'/\∀ v,H' v->H v)/\(soft.contains i=true->H' w')/\n.runC P ops Q soft H' (YL w') a') (pick ops [i]) a w)/\∀ w,C w->wpList P ops.toArray (Nx λ a' w'=>∃ H':World->Prop,(GC H'/\∀ v,H' v->H v)/\(soft.contains j=true->H' w')/\m.runC P ops Q soft H' (YL w') a') (pick ops [j]) a w
 |_,_,_,_=>False
def Zk.okC(md:Region.Mode)(ops:Array Oper)(loud soft:List Nat):Bool->Zk->Array Bool->Bool
 |_,.d,listed=>(Region.ready md ops listed).isEmpty
 |b,.q l n,listed=>Go.Proofs.YtlfjdjndhcmliaaGreatDoor.okH md ops loud soft true (n.okC md ops loud soft b) l listed
 |b,.f l n,listed=>b&&Go.Proofs.YtlfjdjndhcmliaaGreatDoor.okH md ops loud soft false (n.okC md ops loud soft b) l listed
 |b,.c i n,listed=>(Region.ready md ops listed).contains i&&Region.free md ops listed i&&!loud.contains i&&opB ops calm i&&n.okC md ops loud soft b (listed.setIfInBounds i true)
 |b,.x [i] n,listed=>decide (Region.ready md ops listed=[i])&&loud.contains i&&n.okC md ops loud soft (b&&soft.contains i) (listed.setIfInBounds i true)
 |b,.y i j n m,listed=>(Region.ready md ops listed).all (λ k=>k==i||k==j)&&!(Region.ready md ops listed).isEmpty&&loud.contains i&&loud.contains j&&decide (n.size=m.size)&&n.okC md ops loud soft (b&&soft.contains i) (listed.setIfInBounds i true)&&m.okC md ops loud soft (b&&soft.contains j) (listed.setIfInBounds j true)
 |_,_,_=>false
theorem Y5{loud soft:List Nat}(hsel:∀(j:Nat)(o:Oper) cs b,ops[j]?=some o->o.op≠.select cs b):∀(t:Zk)(b:Bool)(H C:World->Prop)(listed:Array Bool)(a:Act),GC H->(b=true->∀ w,C w->H w)->Closed md ops listed->t.okC md ops loud soft b listed=true->t.runC P ops.toList Q soft H C a ->
  qj P md ops loud soft H Q t.size C listed a
 | .d,_,H,C,listed,a,_,_,_,hB,h=>⟨by simpa [Zk.okC]using hB,h⟩
 | .q l n,b,H,C,listed,a,hH,hC,hcl,hB,h=>yC (hard:=true) hsel (λ _=>rfl) (λ h=>by cases h) (λ listed' a' hc hB' h'=>Y5 hsel n b H C listed' a' hH hC hc hB' h') l listed a hcl hB (by simpa [Zk.runC]using h)
 | .f l n,b,H,C,listed,a,hH,hC,hcl,hB,h=>by
  simp only [Zk.okC,Bool.and_eq_true]at hB;exact yC (hard:=false) hsel (λ h=>by cases h) (λ _=>⟨rfl,hC hB.1⟩) (λ listed' a' hc hB' h'=>Y5 hsel n b H C listed' a' hH hC hc hB' h') l listed a hcl hB.2 (by simpa [Zk.runC]using h)
 | .c i n,b,H,C,listed,a,hH,hC,hcl,hB,h=>by
  simp only [Zk.okC,Bool.and_eq_true]at hB;obtain⟨⟨⟨⟨hr,hf⟩,hl⟩,hh⟩,hB'⟩:=hB;have hr:i∈Region.ready md ops listed:=by simpa using hr
  obtain⟨_,oi,hoi,_⟩:=mem_ready.1 hr;have hoi':ops.toList[i]?=some oi:=by simpa using hoi
  simp only [Zk.runC,pick,hoi',List.append_nil,Array.toArray_toList]at h
  have hq:qOp P ops (λ _=>True) i (n.runC P ops.toList Q soft H C) a:=by
   unfold qOp;simp only [hoi];exact h
  obtain⟨v,hy,hK⟩:=yieldsIn_of_qOp hoi hq;simp only [opB,hoi,Option.map_some,Option.getD_some]at hh;rw [show (Zk.c i n).size=n.size+1 by simp [Zk.size,Nat.add_comm]];exact Ze9 hoi (by simpa using hl) hsel _ C listed a hcl (Region.free_spec hoi hf) hr (λ D=>Ua (KY hh) hy D λ _ _=>trivial) (Y5 hsel n b H C _ _ hH hC (hcl.set hr) hB' hK)
 | .x [i] n,b,H,C,listed,a,hH,hC,hcl,hB,h=>by
  simp only [Zk.okC,Bool.and_eq_true,decide_eq_true_eq]at hB;obtain⟨⟨hr,hl⟩,hn⟩:=hB;have hri:i∈Region.ready md ops listed:=by rw [hr];simp
  obtain⟨_,oi,hoi,_⟩:=mem_ready.1 hri;have hoi':ops.toList[i]?=some oi:=by simpa using hoi
  rw [show (Zk.x [i] n).size=n.size+1 by simp [Zk.size,Nat.add_comm]];refine⟨by rw [hr];simp,λ j hj=>?_⟩;obtain rfl:j=i:=by rw [hr]at hj;simpa using hj
  rw [if_pos (by simpa using hl)];intro w hw;have h1:wpList P ops (Nx λ a' w'=>∃ H':World->Prop,(GC H'/\∀ v,H' v->H v)/\([j].all soft.contains=true->H' w')/\n.runC P ops.toList Q soft H' (YL w') a') (pick ops.toList [j]) a w:=by simpa [Zk.runC]using h w hw
  simp only [pick,hoi',List.append_nil]at h1;refine wpOp_mono (λ a' w' hh=>?_) (Z8 hoi h1);obtain⟨H',⟨hG,hsub⟩,h2,h3⟩:∃ H':World->Prop,(GC H'/\∀ v,H' v->H v)/\([j].all soft.contains=true->H' w')/\n.runC P ops.toList Q soft H' (YL w') a':=hh;have hs:j∈soft->∀ v,YL w' v->H' v:=λ hj v hv=>hG _ _ (h2 (by simpa using hj)) hv
  exact⟨YL w',YY w',λ hj v hv=>hsub v (hs hj v hv),XY hsub _ _ _ _ (Y5 hsel n _ H' (YL w') _ a' hG (λ hb=>hs (by simp only [Bool.and_eq_true]at hb;simpa using hb.2)) (hcl.set hri) hn h3)⟩
 | .y i j n m,b,H,C,listed,a,hH,hC,hcl,hB,h=>by
  simp only [Zk.okC,Bool.and_eq_true,decide_eq_true_eq]at hB;obtain⟨⟨⟨⟨⟨⟨hr,he⟩,hli⟩,hlj⟩,hz⟩,hn⟩,hm⟩:=hB;simp only [Zk.runC]at h;rw [show (Zk.y i j n m).size=n.size+1 by simp [Zk.size]];refine⟨λ e=>by rw [e]at he;simp at he,λ k hk=>?_⟩;have hk2:=List.all_eq_true.1 hr k hk;simp only [Bool.or_eq_true,beq_iff_eq]at hk2;obtain⟨_,ok,hok,_⟩:=mem_ready.1 hk;have hok':ops.toList[k]?=some ok:=by simpa using hok
  rcases hk2 with rfl|rfl
  ·rw [if_pos (by simpa using hli)];intro w hw;have h1:=h.1 w hw;simp only [Array.toArray_toList,pick,hok',List.append_nil]at h1;refine wpOp_mono (λ a' w' hh=>?_) (Z8 hok h1);obtain⟨H',⟨hG,hsub⟩,h2,h3⟩:∃ H':World->Prop,(GC H'/\∀ v,H' v->H v)/\(soft.contains k=true->H' w')/\n.runC P ops.toList Q soft H' (YL w') a':=hh;have hs:k∈soft->∀ v,YL w' v->H' v:=λ hj v hv=>hG _ _ (h2 (by simpa using hj)) hv
   exact⟨YL w',YY w',λ hj v hv=>hsub v (hs hj v hv),XY hsub _ _ _ _ (Y5 hsel n _ H' (YL w') _ a' hG (λ hb=>hs (by simp only [Bool.and_eq_true]at hb;simpa using hb.2)) (hcl.set hk) hn h3)⟩
  ·rw [if_pos (by simpa using hlj)];intro w hw;have h1:=h.2 w hw;simp only [Array.toArray_toList,pick,hok',List.append_nil]at h1;rw [hz];refine wpOp_mono (λ a' w' hh=>?_) (Z8 hok h1);obtain⟨H',⟨hG,hsub⟩,h2,h3⟩:∃ H':World->Prop,(GC H'/\∀ v,H' v->H v)/\(soft.contains k=true->H' w')/\m.runC P ops.toList Q soft H' (YL w') a':=hh;have hs:k∈soft->∀ v,YL w' v->H' v:=λ hj v hv=>hG _ _ (h2 (by simpa using hj)) hv
   exact⟨YL w',YY w',λ hj v hv=>hsub v (hs hj v hv),XY hsub _ _ _ _ (Y5 hsel m _ H' (YL w') _ a' hG (λ hb=>hs (by simp only [Bool.and_eq_true]at hb;simpa using hb.2)) (hcl.set hk) hm h3)⟩
 | .x [] _,_,_,_,_,_,_,_,_,hB,_ | .x (_::_::_) _,_,_,_,_,_,_,_,_,hB,_ | .g _ _,_,_,_,_,_,_,_,_,hB,_ | .z _ _ _ _,_,_,_,_,_,_,_,_,hB,_=>by simp [Zk.okC]at hB
theorem ZZ{id:Nat}{a:Act}{w:World}{l:List Oper}(H:World->Prop)(soft:List Nat)(t:Zk)(hH:GC H)(h0:H w)(hm:P.follows .mixedOrders=true)(hB:(Region.noSelect l.toArray&&decide (t.size=l.length)&&t.okC .any l.toArray t.louds soft true (Array.replicate l.length false))=true)
  (h:t.runC P l Q soft H (YL w) a):(Code.region id l.toArray true).wp P Q a w:=by
 simp only [Bool.and_eq_true,decide_eq_true_eq]at hB;obtain⟨⟨hs,hz⟩,hk⟩:=hB;refine wp_region_any hm (XK (loud:=t.louds) (soft:=soft) (H:=H) _ (YL w) _ _ _ ⟨⟨w.drawn+1,#[]⟩,by simp only [gr,grow_empty];rfl⟩ ?_);have:=Y5 (md:=.any) (Q:=Q) (Region.noSelect_spec hs) t true H (YL w) (Array.replicate l.length false) a hH (λ _ v hv=>hH _ _ h0 hv) (λ j oj _ hl=>by rw [getD_replicate_false]at hl;cases hl) hk (by simpa using h);rw [hz]at this;simpa using this
end
end Go.Proofs.YtlfjdjndhcmliaaGreatDoor
