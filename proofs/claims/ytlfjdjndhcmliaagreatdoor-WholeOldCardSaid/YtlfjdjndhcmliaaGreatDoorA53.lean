/- WholeOld, part 53. -/
import Derived.Test.YtlfjdjndhcmliaaGreatDoorA52
import Derived.Test.YtlfjdjndhcmliaaGreatDoorTie
import Derived.Test.YtlfjdjndhcmliaaGreatDoorCards
import Derived.LaidMore
import Derived.Lay
import Derived.SevenTiedAt
import Derived.Stop.Joined
import Derived.Test.YtlfjdjndhcmliaaGreatDoorA51
import Derived.Test.YtlfjdjndhcmliaaGreatDoorA50
import Derived.Test.YtlfjdjndhcmliaaGreatDoorA49
import Derived.Test.YtlfjdjndhcmliaaGreatDoorA39
import Derived.Test.YtlfjdjndhcmliaaGreatDoorA40
set_option maxRecDepth 100000
set_option maxHeartbeats 4000000
set_option linter.all false
namespace Go.Proofs.YtlfjdjndhcmliaaGreatDoor
open Go.ChangeShapes Go.WideShapes Go.ChangeAt Go.RowKit Go.Joins
theorem ZeE(walk:jY 4 Tryz.f4.params)(os:Os)(started:os.Started)(H:Type)(enc:TypeId × Value->H) :
  ReturnsInHanded {} Tryz.checked os 4 .any (λ w args=>(Rows.wholeOldSpec.pre enc Tryz.prog Tryz.f4 Rows.wholeOldRow.domain false w args/\laidMetH Tryz.prog Rows.wholeOldRow.laid w)/\sizedMet enc Tryz.prog Tryz.f4 (OpenSpec.ofChange Rows.wholeOldSpec) false w args)
   (Rows.wholeOldSpec.post enc Tryz.prog Tryz.f4 false true false false):=by
 refine returnsInHanded_of_change_and (C:=Tryz.checked) (X:=λ w _=>laidMetH Tryz.prog Rows.wholeOldRow.laid w) (λ _ _ _ hh h=>h.of_heap hh) Tryz.own started (by kernel_rfl) Tryz.func4
  (ChangeSpec.witness_shaped (enc:=enc) (C:=Tryz.checked) (os:=os) (X:=λ w _=>laidMetH Tryz.prog Rows.wholeOldRow.laid w) false (World.laidAll Tryz.prog os Rows.wholeOldRow.laid) #[.agg #[.slice none 0 0,.int .i64 0],.slice none 0 0,.slice none 0 0] 8 (World.laidAll_os _ _ _)
   (World.shaped_of_ZipB (by kernel_rfl) (by kernel_rfl)) (by kernel_rfl) (by kernel_rfl) (by kernel_rfl)
   (by rw [MakeChecks.laidMetH_plain _ _ _ (by kernel_rfl)];exact laidMet_laidAll _ (by kernel_rfl) (by kernel_rfl))) ?_
 intro W base args ds gs before hval hW hcnd h1 hL hsz;have hW':=hW;obtain⟨p,q,hA0,hV,hps,hfz,hnd⟩:=hW;obtain⟨hgs,hq⟩:=trodVars_none hV;subst hgs;subst hq;simp only [List.append_nil]at hps;subst hps;have hA:DataW.TrodAll enc Tryz.prog W 0 (λ _=>true) true Tryz.f4.params.toList args.toList ds before:=hA0
 have hlen:∀(ts:List TypeId)(vs:List Value) (ds:List (DataW H)) (ps:List MemPlace),DataW.TrodAll enc Tryz.prog W 0 (λ _=>true) true ts vs ds ps->ds.length=ts.length:=by
  intro ts
  induction ts with
  |nil=>intro vs ds ps h;obtain⟨rfl,rfl,rfl⟩:=trodAll_nil h;rfl
  |cons t ts ih=>intro vs ds ps h;obtain⟨v,vs',d,ds',p,q,rfl,rfl,rfl,hd,hrest⟩:=trodAll_cons h;simp [ih _ _ _ hrest]
 have hl:=hlen _ _ _ _ hA
 have hsz':(DataW.weightsEach Tryz.prog Tryz.f4.params.toList ds).all (·<=reachBytes)=true:=by
  have e:Rows.wholeOldSpec.plain.varTypes Tryz.checked.prog=[]:=rfl;rw [e,List.append_nil,List.append_nil]at h1;exact h1
 refine(walk H enc W base args ds before hval hA hfz hsz').mono λ e W' ⟨he,hb⟩=>⟨_,he,?_⟩
 have hlt:∀ x∈before,x.block<W.heap.size:=λ x hx=>hW'.lt x hx
 have e1:Rows.wholeOldSpec.fn H (ds++[])={ results:=[.lit (.bool true)],args:=ds }:=by
  rw [List.append_nil];rw [Tryz.params4]at hl
  match ds,hl with
  | [d1,d2,d3],_=>rfl
 refine⟨ds,[],before,[],before,[],hW',?_,?_,?_,hb.frame _,λ h=>by cases h⟩
 ·rw [e1];exact trodAll_mk1 (shut_bool Tryz.underlying4 true)
 ·rw [e1];exact yl Tryz.laidOut hb _ _ _ _ (by kernel_rfl) hA hlt
 ·rw [e1];rfl
theorem ZfU(walk:jY 4 Tryz.f4.params):Rows.WholeOldSaid :=
 OpenClaim.holds_of_wide 4 Tryz.f4 rfl rfl rfl rfl rfl rfl rfl ⟨rfl,rfl,rfl,rfl,rfl⟩ rfl rfl rfl rfl rfl (by kernel_rfl) Tryz.func4 ZgN
  (of_decide_eq_true (by kernel_rfl)) (by unfold Func.isWrapper;first|(rw [if_pos (by decide +kernel)];kernel_rfl)|(rw [if_neg (by decide +kernel)];exact⟨rfl,rfl⟩))
  (λ os started H enc _=>ZeE walk os started H enc)
theorem Ziy(walk:jY 4 Tryz.f4.params):Rows.WholeOldCardSaid :=
 Claim7.holds_tied_plain_at .later [] [.data, .pinned] true (true, "7fb40f46aca9d6bdd3050274ba9ddde1ccbfa92a080233c573c1bd56531b3d35") true (ZfU walk) (λ _ h => by cases h) (by kernel_rfl) (λ _ h => by cases h) wholeOld_row_tie rfl ⟨rfl, rfl⟩ (by kernel_rfl) rfl
  (λ f fn hf hfn=>by
   obtain rfl:f=4:=Option.some.inj ((show Tryz.prog.funcNamed Tryz.f4.name=some 4 by kernel_rfl).symm.trans hf) |>.symm
   obtain rfl:fn=Tryz.f4:=(Option.some.inj (Tryz.func4.symm.trans hfn)).symm
   exact⟨by kernel_rfl,λ j t ht=>by
    rw [Tryz.params4]at ht
    have hm:t∈[24,25]:=by
     have:=Array.mem_of_getElem? ht;simp at this ⊢;omega
    have hall:([24,25].all λ u=>!Tryz.prog.wantsStandIn u)=true:=by kernel_rfl
    exact(show Tryz.prog.wantsStandIn t=false by simpa using List.all_eq_true.1 hall t hm)⟩)
  (by kernel_rfl)
end Go.Proofs.YtlfjdjndhcmliaaGreatDoor
namespace Go.Proofs.YtlfjdjndhcmliaaGreatDoor
open Go.RowKit Go.Sort
theorem K9{f g:Nat->ByteArray}{k:Nat}:∀ j,(∀ i,i<j->f (4*k+i)=g (4*k+i))->Yd f k j=Yd g k j
 |0,_=>rfl
 |j+1,h=>by rw [Yd,Yd,K9 j λ i hi=>h i (by omega),h j (by omega)]
section
variable{V:VD}{n1 n2 n3:Nd}[Yv n1][Yv n2][Yv n3]
abbrev VD.u3(V:VD)(n1 n2 n3:Nd):VD:=((V.ub 1 n1).ub 2 n2).ub 3 n3
theorem Zgr(hb:V.rg=λ _ _=>Z1 0){d:Nat}(hd:d<V.ds.length):Yd ((V.u3 n1 n2 n3).rg d) 0 4=Zx 256/\Yd ((V.u3 n1 n2 n3).rg d) 1 4=ubS V.s V.secs 1 n1/\Yd ((V.u3 n1 n2 n3).rg d) 2 4=ubS V.s V.secs 2 n2/\Yd ((V.u3 n1 n2 n3).rg d) 3 4=ubS V.s V.secs 3 n3:=by
 have e3:∀ k,k<4->k≠3->Yd ((V.u3 n1 n2 n3).rg d) k 4=Yd (((V.ub 1 n1).ub 2 n2).rg d) k 4:=λ k h1 h2=>yq (j:=3) h1 (by omega) h2
 have e2:∀ k,k<4->k≠2->Yd (((V.ub 1 n1).ub 2 n2).rg d) k 4=Yd ((V.ub 1 n1).rg d) k 4:=λ k h1 h2=>yq (j:=2) h1 (by omega) h2
 have e1:∀ k,k<4->k≠1->Yd ((V.ub 1 n1).rg d) k 4=Yd (V.rg d) k 4:=λ k h1 h2=>yq (j:=1) h1 (by omega) h2
 refine⟨?_,?_,?_,VA (k:=3) _ (KR (by omega)) hd (by omega)⟩
 ·rw [e3 0 (by omega) (by omega),e2 0 (by omega) (by omega),e1 0 (by omega) (by omega),hb];exact ZbV (d:=d)
 ·rw [e3 1 (by omega) (by omega),e2 1 (by omega) (by omega)];exact VA (k:=1) _ (KR (by omega)) hd (by omega)
 ·rw [e3 2 (by omega) (by omega)];exact VA (k:=2) _ (KR (by omega)) hd (by omega)
theorem Zec(hb:V.rg=λ _ _=>Z1 0){f:Nat->ByteArray}{d:Nat}(hd:d<V.ds.length)(hf:∀ k,k<16->f k=spU ((V.u3 n1 n2 n3).rg d) 12 k)(hz:((V.u3 n1 n2 n3).rg d 12).size=64) :
  Yd f 0 4=Zx 256/\Yd f 1 4=ubS V.s V.secs 1 n1/\Yd f 2 4=ubS V.s V.secs 2 n2/\∃ u u':ByteArray,u'.size=224/\Yh u'≠Yh u/\Yd f 3 4=u'++bs (Yh u) 4:=by
 obtain⟨s0,s1,s2,s3⟩:=Zgr (n1:=n1) (n2:=n2) (n3:=n3) hb hd
 have e:∀ k,k<3->Yd f k 4=Yd ((V.u3 n1 n2 n3).rg d) k 4:=λ k hk=>K9 4 λ i hi=>by
  rw [hf _ (by omega),spU,if_neg (by omega)]
 have e3:Yd f 3 4=Yd (spU ((V.u3 n1 n2 n3).rg d) 12) 3 4:=K9 4 λ i hi=>hf _ (by omega)
 refine⟨(e 0 (by omega)).trans s0,(e 1 (by omega)).trans s1,(e 2 (by omega)).trans s2,?_⟩;obtain⟨u',h1,h2,h3⟩:=spoilt (u:=ubH V.s V.secs 3 n3) (zi (by omega)) (k:=3) s3 hz;exact⟨_,u',h1,h2,e3.trans h3⟩
end
section
variable{V:VD}{pb txg:Nat}{root:Nd}{C:Nat}{K0:KS}{wd:Wd}{W w:World}{h:Hl}{L:List SP}
theorem Za1(B:Bt W h L w){i:Nat}(e:L[i]?=some (Xn V pb txg root C K0 wd)):Fn 8 #[pV pb] w (.agg (Jn txg root)):=by
 obtain⟨h0,⟨K,live,l,_,sa,scap,ra,rcap,ob,owk,ow,bk,sb,N,F,ms,es,_,_,s⟩,j⟩:=B.mem e;obtain⟨h1,a,b⟩:=s.get (i:=0) rfl;haveI:Zh w pb (X7 V txg root live (.slice sa l.length scap) (.slice ra V.ds.length rcap) (.pointer ob) (.pointer owk) (.pointer ow)):=⟨_,(j.sub b).get _ _ a⟩
 exact ZaN V pb txg root live _ _ _ _ _ w
def ZhJ(s:ZO)(K:KS):Prop:=∀ p q t t',K p t->K q t'->p=q\/∀ g u,Xy s p g u->Xy s q g u->False
theorem Bt.poy(B:Bt W h (PoY V pb txg root C K0 wd::L) w):∃(K:KS)(live:Nd)(l:List Sn),((qF K txg live l wd/\yG K root (qE ⟨#[]⟩ 0 (msB live l V.ds.length)))/\ZhJ V.s K/\Yv root/\KH V.s V.secs root)/\Bt W h (Xn V pb txg root C K wd::L) w:=by
 have B1:=B.head (q:=λ h=>∃(K:KS)(live:Nd)(l:List Sn),((qF K txg live l wd/\yG K root (qE ⟨#[]⟩ 0 (msB live l V.ds.length)))/\ZhJ V.s K/\Yv root/\KH V.s V.secs root)/\Xn V pb txg root C K wd h) λ h p=>by
  have nd:=PoY.nd p;obtain⟨K,live,l,sa,scap,ra,rcap,ob,owk,ow,bk,sb,N,F,ms,es,⟨w,o,_⟩,⟨ok,hC⟩,pv,s⟩:=p;exact⟨K,live,l,⟨⟨w,o⟩,ok.kept.apart,nd⟩,K,live,l,⟨λ _ _ e=>e,w⟩,sa,scap,ra,rcap,ob,owk,ow,bk,sb,N,F,ms,es,⟨ok,hC⟩,pv,s⟩
 obtain⟨K,B1⟩:=B1.ex;obtain⟨live,B1⟩:=B1.ex;obtain⟨l,B1⟩:=B1.ex;obtain⟨a,B1⟩:=B1.pure;exact⟨K,live,l,a,B1⟩
theorem Bt.poyd(B:Bt W h (PoY V pb txg root C K0 wd::L) w)(hC:100<=C):∃(N:Nat)(F:Nat->Nat->ByteArray)(live:Nd)(ss sl ob owk ow:Value),((N+100<=1000000000000/\Yv root)/\(∀ p t,K0 p t->Held V.s V.secs F p t)/\∀ d k,k<16->F d k=V.rg d k)/\Bt W h (ZE V N F::Zd pb (X7 V txg root live ss sl ob owk ow) 82::L) w:=by
 obtain⟨h0,p,j⟩:=B.mem (i:=0) rfl;have nd:=(PoY.nd p).1;clear p j;obtain⟨K,B⟩:=B.ex;obtain⟨live,B⟩:=B.ex;obtain⟨l,B⟩:=B.ex;obtain⟨sa,B⟩:=B.ex;obtain⟨scap,B⟩:=B.ex;obtain⟨ra,B⟩:=B.ex;obtain⟨rcap,B⟩:=B.ex;obtain⟨ob,B⟩:=B.ex;obtain⟨owk,B⟩:=B.ex;obtain⟨ow,B⟩:=B.ex;obtain⟨bk,B⟩:=B.ex;obtain⟨sb,B⟩:=B.ex;obtain⟨N,B⟩:=B.ex;obtain⟨F,B⟩:=B.ex;obtain⟨ms,B⟩:=B.ex;obtain⟨es,B⟩:=B.ex;obtain⟨⟨_,_,hh⟩,B⟩:=B.pure;obtain⟨⟨ok,_⟩,B⟩:=B.pure;obtain⟨_,B⟩:=B.pure;have hb:=ok.bd;exact⟨N,F,live,_,_,_,_,_,⟨⟨by omega,nd⟩,hh,ok.ring⟩,(((((B.flat.front (i:=4) rfl).front (i:=2) rfl).drop.front (i:=2) rfl).drop.front (i:=2) rfl).drop.front (i:=2) rfl).drop⟩
end
def zL(F:Nat->Nat->ByteArray)(d sl e k:Nat):ByteArray:=if e<d/\k=sl then spT (F e k)else F e k
theorem Zmb(F:Nat->Nat->ByteArray)(sl:Nat):zL F 0 sl=F:=by
 funext e k
 unfold zL;rw [if_neg (by omega)]
theorem ZjD(F:Nat->Nat->ByteArray)(d sl:Nat):KE (zL F d sl) d sl (spT (zL F d sl d sl))=zL F (d+1) sl:=by
 funext e k
 unfold KE Qw
 by_cases h1:e=d
 ·subst h1;rw [if_pos rfl]
  by_cases h2:k=sl
  ·subst h2;rw [if_pos rfl,zL,if_neg (by omega),zL,if_pos (by omega)]
  ·rw [if_neg h2,zL,if_neg (by omega),zL,if_neg (by omega)]
 ·rw [if_neg h1,zL,zL];exact ite_congr (propext (by omega)) (λ _=>rfl) (λ _=>rfl)
theorem Zkh(F:Nat->Nat->ByteArray){n d:Nat}(hd:d<n)(sl k:Nat):zL F n sl d k=spU (F d) sl k:=by
 unfold zL spU;exact ite_congr (propext (by omega)) (λ _=>rfl) (λ _=>rfl)
theorem Zht(V:VD)(N:Nat)(F:Nat->Nat->ByteArray)(d dd a:Nat)(hdd:V.ds[d]?=some dd)(ha:a<V.secs)(hN:N<1000000000000) :
  Tq 11 #[.pointer (some ⟨dd,0,none⟩),.int .i64 a,.int .i64 9,.int .u8 1] (ZE V N F) λ v q=>v=.bool true/\q=ZE V (N+1) (KE F d a (spT (F d a))):=by
 intro W h hw hp;obtain⟨ok,st⟩:=hp;have HT:=((Zev dd V.secs N (F d) a ha).mono (q':=λ v h=>v=.bool true/\Qh dd V.secs (N+1) (Qw (F d) a (spT (F d a))) h) (λ _ h=>h) λ v h p=>⟨p.1,p.2.more (by omega) (by omega)⟩).atv (Qa (N:=N) (F:=F) hdd [X9 V.s,Jd V.lb (zb V.ds),Jd V.ab (List.replicate V.ds.length (.bool false))]);refine(HT.run (h:=h) W st).mono ?_;rintro e w' ⟨rfl,T⟩;exact⟨_,_,rfl,⟨rfl,rfl⟩,T.mono λ h' p=>kv ok hdd hN p⟩
theorem ZiM(s:ByteArray):qE ⟨#[]⟩ 0 s=s:=by
 by_cases h:s.size=0
 ·rw [ZcW h];apply Yu;have:s.data.toList.length=0:=by rw [Zi];exact h
  rw [List.length_eq_zero_iff.1 this]
 ·have h0:(⟨#[]⟩:ByteArray).size=0:=rfl;unfold qE;rw [if_neg h,h0];refine Qv (n:=s.size) (by rw [YA];omega) rfl λ j hj=>?_
  rw [Ja (by omega),Nat.zero_add,jD,if_pos (by omega),Nat.sub_zero]
section
variable{V:VD}{K:KS}{txg:Nat}{root live:Nd}{l:List Sn}{wd:Wd}
theorem ZeB(N:Nat)(F:Nat->Nat->ByteArray)(ht:txg+1<=4294967294)(hro:V.ro=true)(hN:N<=1000000000000)(hh:∀ p t,K p t->Held V.s V.secs F p t)
  (hap:∀ p q t t',K p t->K q t'->p=q\/∀ g u,Xy V.s p g u->Xy V.s q g u->False) (hr:∀ d k,k<16->F d k=V.rg d k)
  (wok:qF K txg live l wd) (ot:yG K root (qE ⟨#[]⟩ 0 (msB live l V.ds.length)))
  (HB:∀ w,Zn V F w->Fn 33 #[V.v] w (.tuple #[.agg (Jn txg root),.int .i64 0]))
  (HO:∀ F',(∀ d k,k<16->F' d k=V.rg d k)->∀(d:Nat)(w:World),d<V.ds.length->Zn V F' w->Fn 76 #[V.v,.int .i64 d,.int .i64 (txg%4:Nat)] w (.tuple #[.agg (Jn txg root),.int .i64 0])) :
  Tq 12 #[V.v] (ZE V N F) λ v q=>∃ pb,v=.tuple #[pV pb,.int .i64 0]/\q=Xn V pb txg root 0 (λ _ _=>False) wd:=by
 refine Tq.of λ W h B=>?_
 have MT:=ZcX (V:=V) N 0 F K (λ _=>⟨hh,λ _ _ _ _ _ _=>.inl hro,hap⟩) hr (λ _=>rfl) (by omega) (by omega);have HBh:=Lib.hid HB;have HOh:=Lib.hid HO;have Wk:=Lib.hid wok;have hK:∀ p t,K p t->J9 V.s V.secs p:=λ p t hp=>(hh p t hp).ok
 have hF:∀ p t,K p t->p.fit:=λ p t hp=>(hh p t hp).fit
 have sok:=wok.sn.ok hK (by omega)
 have lok:Yv live/\KH V.s V.secs live:=by
  obtain⟨g,o⟩:=wok.live.ob;exact⟨kK hF o,j5 hK o⟩
 have hd:∀ x∈l,Yv x.dir:=λ x hx=>by
  obtain⟨g,o⟩:=wok.sn.dir x hx;exact kK hF o
 obtain⟨g0,o0,ht0⟩:=ot;rw [ZiM]at ht0;obtain⟨t0,ht1⟩:∃ t0,msB live l V.ds.length=t0:=⟨_,rfl⟩
 rw [ht1]at ht0;have HT0:=Lib.hid ht0;have HT1:=Lib.hid ht1;have Hs:=Lib.hid (And.intro sok (And.intro lok hd));have HO0:=Lib.hid o0;clear hK hF sok lok hd ht1 o0;clear HB HO hap hr hh ht0 wok
 go_in
 go_wp2_with((with_reducible apply Za);(·exact rfl);(·exact ii));refine ZB (W:=W) (h:=h) (l:=[Zd W.heap.size V.cs 31,ZE V N F]) ii ?_;intro w1 C1;refine(HBh.out w1 (Z0 C1 (i:=1) rfl)).1.mono ?_;rintro e w2 ⟨rfl,hb⟩;have B2:Bt W h _ w2:=Ze (Zf hb);clear hb C1 B;dsimp only;go_wp2_with(first|((with_reducible apply Za);(·exact rfl);(·exact ii))|((with_reducible apply Zb);(·exact rfl);(·exact rfl);(·exact ii)));refine ZB (W:=W) (h:=h) (l:=[Zd w2.heap.size (Jn txg root) 54,Zd W.heap.size V.cs 31,ZE V N F]) ii ?_;intro w3 C3;clear B2;refine(Bt.call MT (B:=C3)).mono ?_;rintro e w4 ⟨v,q,rfl,⟨pb,rfl,rfl⟩,B4⟩;clear C3 MT;dsimp only;have B5:=Bt.oS (B4) [2,0,1];clear B4;generalize w2.heap.size=pu at *
 obtain⟨ra,B5⟩:=B5.ex;obtain⟨rcap,B5⟩:=B5.ex;obtain⟨bk,B5⟩:=B5.ex;obtain⟨sb,B5⟩:=B5.ex;obtain⟨ms,B5⟩:=B5.ex;obtain⟨es,B5⟩:=B5.ex;obtain⟨⟨ok,hC9⟩,B5⟩:=B5.pure;replace B5:=B5.flat;simp only [yI,List.cons_append,List.nil_append]at B5;have Ok:=Lib.hid ok;clear ok hC9;go_wp2_with(first|((with_reducible apply Za);(·exact rfl);(·exact ii))|((with_reducible apply Zb);(·exact rfl);(·exact rfl);(·exact ii)));refine Yn (W:=W) (h:=h) (l:=[Zd pb (X7 V txg root Nd.none (.slice none 0 0) (.slice ra V.ds.length rcap) (pV bk) (.pointer none) (.pointer none)) 82,Zw 125 15 none 0 0 (Ye []),Zw 92 2 ra V.ds.length rcap (YU V.ds.length),ZV bk sb V.secs ms es,ZE V N F,X9 sb,Zd pu (Jn txg root) 54,Zd W.heap.size V.cs 31]) ii ?_;clear B5;intro w5 B5;have C0:=Bt.oS (B5) [6,0,1,2,3,4,5,7];clear B5;obtain⟨HL,hHL⟩:∃ HL:List SP,HL=[Zd pu (Jn txg root) 54]:=⟨_,rfl⟩
 have in0:In (star HL) w5:=by
  rw [hHL];obtain⟨h0,p,hw⟩:=(C0.app [_]).mem (i:=0) rfl;exact⟨h0,p,hw⟩
 have i1:∀ x:JD (star HL),Zh x.w pu (Jn txg root):=λ x=>ZU x.h (k:=0) (by rw [hHL];rfl)
 have HHL:=Lib.hid hHL;clear hHL;have GH:=Zq (star HL);haveI:Nonempty (JD (star HL)):=⟨⟨w5,in0⟩⟩
 refine ZZ (YT (star HL)) [1] (.q [0] (.f [3,4,5,6,7] (.x [1] (.q [2] (.x [8] (.q [9,10,11,12,13] .d)))))) GH (YT.of in0) (by kernel_rfl) (by kernel_rfl) ?_;simp only [Zk.runC,pick,List.getElem?_cons_zero,List.getElem?_cons_succ,List.cons_append,List.nil_append]
 (repeat(first|((with_reducible apply Zc);(·exact rfl);(·rintro _ ⟨gq,rfl⟩;exact ii);go_frame)|go_big_quiet_step (exact qZ)));refine nZ ?_
 (repeat(first|((with_reducible apply Zc);(·exact rfl);(·rintro _ ⟨gq,rfl⟩;exact ii);go_frame)|go_big_quiet_step (exact qZ)));refine nZ ?_
 refine Z4 ?_;intro w6 C1;clear C0 in0;go_wp2_with fail;haveI:Zh w6 pb (X7 V txg root Nd.none (.slice none 0 0) (.slice ra V.ds.length rcap) (pV bk) (.pointer none) (.pointer none)):=ii;refine(zx V pb bk txg (txg+1) 0 rfl (by omega) root Nd.none _ _ _ _ w6).mono ?_;rintro e w7 ⟨st,rfl,hg,hn⟩;have C2:=Bt.join (w:=w6) C1 hg hn;clear hg hn C1 this;dsimp only
 have in1:In (star HL) w7:=by
  rw [HHL.out];have BX:=Bt.oS (C2) [1,0,2,3,4,5,6,7,8];obtain⟨h0,p,hw⟩:=(BX.app [_]).mem (i:=0) rfl;exact⟨h0,p,hw⟩
 go_wp2_with fail;dsimp only [Nx];refine⟨_,⟨Zq _,λ v hv=>hv⟩,λ _=>YT.of in1,?_⟩
 (repeat(first|((with_reducible apply Zc);(·exact rfl);(·rintro _ ⟨gq,rfl⟩;exact ii);go_frame)|go_big_quiet_step (exact qZ)));refine nZ ?_
 refine Z4 ?_;intro w8 C3;clear C2 in1;have C4:=C3.more (p:=Ul (.pointer none) 0) (.inl ⟨rfl,by omega⟩);simp only [List.cons_append,List.nil_append]at C4;have C5:=Bt.oS (C4) [0,9,6,7,5,1,2,3,4,8];have C6:Bt W h (Qe V st bk sb (txg+1) 0 false K 0::_) w8:=(C5.app [_,_,_,_,_]).head λ h s=>⟨_,N,F,ms,es,Ok.out,s⟩
 clear C3 C4 C5 Ok;have T2:=Qn (V:=V) (st:=st) (bb:=bk) (sb:=sb) (txg:=txg+1) (keep:=0) (meta_:=false) (by omega) (by omega)
 have RD:Tq 35 #[Jv st,.agg root.cs,.int .i64 0,.int .i64 root.size] (Qe V st bk sb (txg+1) 0 false K 0) λ v q=>v=.tuple #[.string t0,.int .i64 0]/\q=Qe V st bk sb (txg+1) 0 false K 0:=by
  have h1:=HO0.out.sz;have:=V7 T2 K 0 HO0.out 0 root.size.toNat (by omega) (by omega);rw [Nat.sub_zero,Nat.min_self,<- HT0.out,Int.toNat_of_nonneg h1.1]at this;exact this
 go_wp2_with fail;refine(Bt.call RD).mono ?_;rintro e w9 ⟨v,q,rfl,⟨rfl,rfl⟩,C7⟩;clear C6 RD T2;dsimp only;go_wp2_with fail;dsimp only [Nx];refine⟨_,⟨Zq _,λ v hv=>hv⟩,λ h=>absurd h (by decide),?_⟩
 (repeat(first|((with_reducible apply Zc);(·exact rfl);(·rintro _ ⟨gq,rfl⟩;exact ii);go_frame)|go_big_quiet_step (exact qZ)));refine nZ ?_
 refine Z4 ?_;intro w10 C8;clear C7;obtain⟨dn,N1,F1,ms1,es1,ok1,D1⟩:=C8.opn;have Ok1:=Lib.hid ok1;clear ok1 C8;simp only [StL,List.cons_append,List.nil_append]at D1;haveI d1:Zn V F1 w10:=Z0 (i:=2) D1 rfl;have vok:=(Zo V F1 w10).1;haveI:Ky V.s V.secs:=⟨vok.g⟩
 haveI:GM V.s w10:=(Zo V F1 w10).2.1
 have MR:∀ w,GM V.s w->Calls Tryz.prog 37 #[.agg #[.slice V.s.ad V.s.len V.s.cap,.int .i64 V.secs],.string t0] w (MrR live l V.ds.length w):=λ w _=>by
  rw [<-HT1.out];haveI:=Hs.out.2.1.1;exact ZgE V.s V.secs live l V.ds.length Hs.out.1 Hs.out.2.1.2 Hs.out.2.2 vok.n.symm w
 clear d1 vok;have HMR:=Lib.hid MR;clear MR;go_wp2_with((with_reducible apply Za);(·exact rfl);(·exact ii));refine(HMR.out _ ii).mono ?_;rintro e w11 ⟨sa,scap,ra2,rcap2,rfl,hg,hn⟩;have D2:=(Bt.join (w:=w10) D1 hg hn).flat;clear hg hn D1;dsimp only;simp only [List.cons_append,List.nil_append]at D2;generalize Nd.none=nn at D2;have D3:=Bt.oS (D2) [8,0,1,6,4,5,2,3,7,9,10,11];clear D2;go_wp2_with((with_reducible apply Zb);(·exact rfl);(·exact rfl);(·exact ii));refine ZB (W:=W) (h:=h) (l:=[Zd pb (X7 V txg root live (.slice sa l.length scap) (.slice ra2 V.ds.length rcap2) (pV bk) (.pointer none) (.pointer none)) 82,Zw 125 15 sa l.length scap (Ye l),Zw 92 2 ra2 V.ds.length rcap2 (YU V.ds.length),ZV bk sb V.secs ms1 es1,ZE V N1 F1,X9 sb,_,_,_,_,_,_]) ii ?_;clear D3;intro w12 E0;have E1:Bt W h (star (yI V pb txg root live l sa scap ra2 rcap2 (some ⟨bk,0,none⟩) none none bk sb N1 F1 ms1 es1)::_) w12:=E0.app [_,_,_,_,_,_];clear E0;have BK:=UZ (V:=V) (pb:=pb) (txg:=txg) (root:=root) (by omega) Wk.out.sn.len (by omega) HO0.out _ rfl (ZeW wd) Wk.out.ts sa scap ra2 rcap2 none bk sb N1 F1 ms1 es1 Ok1.out;refine(Bt.call BK (B:=E1)).mono ?_;rintro e w13 ⟨v,q,rfl,⟨Z,bk3,sb3,N3,F3,ms3,es3,rfl,hR,rfl⟩,E2⟩;clear E1 BK;have HR:=Lib.hid hR;clear hR;dsimp only;replace E2:=E2.flat;simp only [yI,List.cons_append,List.nil_append]at E2;go_wp2_with fail;haveI d3:Zn V F3 w13:=Z0 (i:=4) E2 rfl;refine(ZcB V F3 pb txg root live _ _ _ _ _ w13 λ d w hd _=>HOh.out F3 HR.out.1.ring d w hd ii).mono ?_;rintro e w14 ⟨⟨v,rfl⟩,g14,rfl⟩;have E3:Bt W h _ (gr w13 g14):=ii;clear E2 d3;dsimp only;go_wp2_with fail;go_ret2;refine XE (W:=W) (h:=h) E3 λ w9 B9=>⟨_,⟨pb,rfl,rfl⟩,?_⟩
 have a:=Wk.out.of_ts (K':=K.on Z) HR.out.2.2.1;have wk:qF (K.on Z) txg live l wd:=⟨a.live,a.ids,a.dirs,⟨a.sn.len,a.sn.id,Wk.out.sn.txg,a.sn.dir,a.sn.up,a.sn.ne⟩⟩
 exact((B9.app [_,_,_,_,_,_]).head λ h' r=>⟨K.on Z,live,l,⟨λ _ _ e=>e.elim,wk⟩,sa,scap,ra2,rcap2,some ⟨bk3,0,none⟩,none,none,bk3,sb3,N3,F3,ms3,es3,⟨HR.out.1,by omega⟩,.inl ⟨rfl,rfl⟩,r⟩).fin_at 0 rfl
end
theorem Zi4{V:VD}{F:Nat->Nat->ByteArray}{w:World}(D:Zn V F w){d:Nat}(hd:d<V.ds.length){a:Nat}(ha:a<16):(F d a).size=64:=by
 obtain⟨dd,hdd⟩:∃ dd,V.ds[d]?=some dd:=⟨_,List.getElem?_eq_getElem hd⟩
 have ok:=(Zo V F w).1;haveI:=((Zo V F w).2.2.2.2 d dd hdd).1;obtain⟨N,M,mc,C,ms,g,h,_,i,_⟩:=QS dd V.secs (F d) w;exact i.sz a (by have:=ok.g.2.2.1;omega)
theorem Zn.gh{V:VD}{r:Nat->Nat->ByteArray}{b:Bool}{F:Nat->Nat->ByteArray}{w:World}(D:Zn { V with rg:=r,ro:=b } F w):Zn V F w:=by
 obtain⟨N,D⟩:=D.i;rw [ZE.gh]at D;exact⟨N,D⟩
def Zg0(r1 r2:Nd):Nat->UX
 |0=>(0,Nd.none,3)
 |1=>(1,r1,0)
 |2=>(2,r2,0)
 |_=>(0,Nd.none,4)
section
variable{V:VD}{r1 r2 r3:Nd}[Yv r1][Yv r2][Yv r3]
theorem ZfK(hb:V.rg=λ _ _=>Z1 0)(k1:KH V.s V.secs r1)(k2:KH V.s V.secs r2){F:Nat->Nat->ByteArray}(hF:∀ d k,k<16->F d k=zL (V.u3 r1 r2 r3).rg V.ds.length 12 d k)(d k:Nat)(w:World)(hd:d<V.ds.length)(hk:k<4)(D:Zn V F w) :
  Fn 76 #[V.v,.int .i64 d,.int .i64 k] w (.tuple #[.agg (Jn (Zg0 r1 r2 k).1 (Zg0 r1 r2 k).2.1),.int .i64 (Zg0 r1 r2 k).2.2]):=by
 have sz:=λ a ha=>Zi4 D hd (a:=a) ha
 have h12:=hF d 12 (by omega);rw [Zkh _ hd,spU,if_pos rfl]at h12;have hz:((V.u3 r1 r2 r3).rg d 12).size=64:=by rw [<-ZaI,<- h12];exact sz 12 (by omega)
 haveI:Ky V.s V.secs:=⟨(Zo V F w).1.g⟩
 obtain⟨s0,s1,s2,u,u',h1,h2,h3⟩:=Zec (n1:=r1) (n2:=r2) (n3:=r3) hb hd (f:=F d) (λ k hk=>(hF d k hk).trans (Zkh _ hd 12 k)) hz;refine ZkH V F w d k hd hk _ _ _ sz ?_;intro w' _
 match k,hk with
 |0,_=>rw [s0];exact ZcA V.s V.secs w'
 |1,_=>rw [s1];exact U5 V.s V.secs 1 r1 k1 (by omega) w'
 |2,_=>rw [s2];exact U5 V.s V.secs 2 r2 k2 (by omega) w'
 |3,_=>rw [h3];exact ZeQ V.s V.secs h1 h2 w'
theorem ZgW(hb:V.rg=λ _ _=>Z1 0)(k1:KH V.s V.secs r1)(k2:KH V.s V.secs r2){F:Nat->Nat->ByteArray}(hF:∀ d k,k<16->F d k=zL (V.u3 r1 r2 r3).rg V.ds.length 12 d k)(w:World)(D:Zn V F w) :
  Fn 33 #[V.v] w (.tuple #[.agg (Jn 2 r2),.int .i64 0]):=by
 have ok:=(Zo V F w).1
 have hn0:1<=V.ds.length:=by
  have h1:=Jr ok.g V.s.len 0 (by have:=ok.g.1;omega) (Nat.le_refl _);have h2:=Yk ok.g (k:=0) (by have:=ok.g.1;omega);have h3:=ok.n;simp only [YB]at h1;omega
 have e:=Vc (X:=Zg0 r1 r2) (n1:=r1) (n2:=r2) (show (3:Int)≠0 by decide) rfl rfl (show (4:Int)≠0 by decide) V.ds.length hn0;have:=Zhy V F w (Zg0 r1 r2) (λ d k w hd hk D=>ZfK hb k1 k2 hF d k w hd hk D) (by rw [e];show (2:Int)≠0;decide);rw [e]at this;exact this
end
theorem Zji{s:ZO}{secs:Int}(h:ZT s secs){F:Nat->Nat->ByteArray}{p:Pt}{t:ByteArray}(hp:Held s secs F p t)(n:Nat):Held s secs (zL F n 12) p t:=by
 refine⟨hp.ok,hp.fit,hp.size,hp.sum,λ k c e hc he=>?_⟩;obtain⟨g',a',z',e1,e2,e3,h1,h2,h3⟩:=hp.ok.in_ h;have q:=hp.at_ k c e hc he;rw [e1,e2,e3,Int.toNat_natCast,Int.toNat_natCast,Int.toNat_natCast]at hc;have q2:=Xl h h1 h2 hc;rw [<-q];unfold zL;rw [if_neg (by omega)]
def Zml(W:World)(e:Ending)(w':World):Prop:=e=.returned (.bool true)/\Below W.heap.size W w'
theorem Bt.tru{W w:World}{l:List SP}(B:Bt W (λ _=>none) l w):Zml W (.returned (.bool true)) w:=⟨rfl,B.below0⟩
section
variable{ops:Array Oper}{rest:List Oper}{Q:Exit->Act->World->Prop}{a:Act}{w:World}{d:Option Tmp}{ty:TypeId}{pos:String}{aft:Array Edge}
theorem ZbS(h:wpList Tryz.prog ops Q rest (a.put d (.agg wl0)) w):wpList Tryz.prog ops Q ({ dst:=d,op:=.build 39 #[],type:=ty,pos:=pos,after:=aft,guard:=none }::rest) a w:=by
 refine Ya (v:=.agg _) (w':=w) rfl ?_ h;simp only [execOp,List.map_toArray,List.map_nil,Sem.run_bind,Zkl.run w,Result.andThen_ok,Sem.run_pure]
variable{C:World->Prop}{Kq:Act->Prop}
theorem Uq{gd:Nat × Bool}{t:TypeId}{x:Operand}{b o z:Nat}{cs:Array Value}[k:XF t z](hw:Region.wanted { dst:=d,op:=.load t x,type:=ty,pos:=pos,after:=aft,guard:=some gd } (yielded ops a.tmps)=true)
  (hx:a.eval x=.pointer (some ⟨b,o,none⟩)) (hs:∀ w',C w'->ZJ b o cs z w') (h:wpQuiet Tryz.prog ops C Kq rest (a.put d (.agg cs))):wpQuiet Tryz.prog ops C Kq ({ dst:=d,op:=.load t x,type:=ty,pos:=pos,after:=aft,guard:=some gd }::rest) a:=by
 unfold wpQuiet;rw [if_pos hw];refine⟨.agg cs,λ w hw=>?_,h⟩;unfold Oper.quietAt
 have:(execOp a.eval { dst:=d,op:=.load t x,type:=ty,pos:=pos,after:=aft,guard:=some gd }).run Tryz.prog w=.ok (.value (.agg cs)) w:=by
  simp only [execOp,hx,Sem.run_bind,k.run w b o cs (hs w hw),Result.andThen_ok,Sem.run_pure]
 rw [this];exact⟨rfl,rfl⟩
end
theorem Zfv(s:ZO)(secs:Int)(hs:s.len<=9223372036854775807)(ad:Option Addr)(n cap:Nat)(L:List QE)(W:World)[gm:GM s W](A:Zy 5 ad n cap (L.map λ a=>a.cs.toList) W) :
  Calls Tryz.prog 6 #[.agg #[.slice s.ad s.len s.cap,.int .i64 secs],.slice ad n cap] W (Zln W):=by
 by_cases hn:n<=12
 ·exact ZiD s secs hs ad n cap L hn W A
 ·haveI BZ:=Bt.zero W
  go_in
  go_wp2_with(first|(with_reducible apply ZbS)|(with_reducible apply ZD)|((with_reducible apply Zb);(·exact rfl);(·exact rfl);(·exact ii)))
  (refine bodyPost_ret (XM (z:=4) (z2:=66) rfl _ _ _ _ _ _ rfl rfl ii ii Tryz.underlying31 rfl (by kernel_rfl) Tryz.underlying39 rfl (by kernel_rfl)) rfl ?_)
  exact VB (l:=[_,_,_]) ii ⟨none,0,0,0,none,0,0,none,0,0,rfl⟩
theorem Zk3(s:ZO)(sz:Int)(hs:s.len<=9223372036854775807)(ad:Option Addr)(n cap:Nat)(L:List QE)(ad2:Option Addr)(n2 cap2:Nat)(L2:List QE)(W:World)[gs:GM s W](A:Zy 5 ad n cap (L.map λ a=>a.cs.toList) W)(A2:Zy 5 ad2 n2 cap2 (L2.map λ a=>a.cs.toList) W) :
  Calls Tryz.prog 4 #[.agg #[.slice s.ad s.len s.cap,.int .i64 sz],.slice ad n cap,.slice ad2 n2 cap2] W (Zml W):=by
 have GO:=λ w=>ZjQ w
 haveI BZ:=Bt.zero W
 by_cases hn:n2<=12
 ·have L1:=λ(w:World)(_:GM s w) (A:Zy 5 ad n cap (L.map λ a=>a.cs.toList) w)=>Zfv s sz hs ad n cap L w A
  go_in
  go_wp2_with(first|(with_reducible refine Fn.go λ g=>?_)|((with_reducible apply Za);(·exact rfl);(·exact ii)));refine ZB (W:=W) (h:=λ _=>none) ii ?_;intro w1 B0;refine(L1 w1 (B0.gm gs) (B0.rds0 A)).mono ?_;rintro e w2 ⟨q1,p1,x1,H1,X1,a1,m1,c1,a2,m2,c2,b1,rfl,hx1,T1,hq1⟩;have B1:=Bt.join (W:=W) (h:=λ _=>none) B0 T1.new1.1 T1.new1.2;have HQ1:=Lib.hid hq1;clear T1 L1 hq1 B0 BZ;dsimp only;cases b1 with
  |false =>
   obtain⟨y1,y2,y3,y4,y5,y6,y7,y8,y9,y10,rfl⟩:=hx1;go_wp2_with(first|(with_reducible apply ZD)|((with_reducible apply Zb);(·exact rfl);(·exact rfl);(·exact ii)));go_ret;exact Bt.tru (l:=[_,_,_,_]) ii
  |true =>
   clear hx1;rcases HQ1.out with ⟨hf,_⟩|⟨_,V,pb,r1,r2,wd,ia,icap,sa,scap,⟨hrg,hro,nf1,nk1⟩,rfl,rfl,o,hE,rfl⟩
   ·cases hf
   clear HQ1;replace B1:=B1.flat;simp only [List.cons_append,List.nil_append]at B1;obtain⟨K,live,l,⟨⟨wok,ot⟩,hap,nf2,nk2⟩,B2⟩:=B1.poy;have B3:Bt W (λ _=>none) [Xn ((V.ub 1 r1).ub 2 r2) pb 2 r2 (1000000000-70010-2000000-70010) K wd,WlO (star (slW wd ia icap sa scap)) wd ia icap sa scap,Zd W.heap.size #[.slice s.ad s.len s.cap,.int .i64 sz] 24] w2:=B2.map (i:=1) rfl λ h p=>⟨p.1,p.1⟩
   have HF:=Lib.hid (And.intro wok (And.intro ot (And.intro hap (And.intro nf2 nk2))));have HG:=Lib.hid (And.intro hrg (And.intro nf1 nk1));have HO:=Lib.hid o;clear wok ot hap nf2 nk2 hrg hro nf1 nk1 o B1 B2;rw [hE];clear hE;unfold KO;go_wp2_with(first|(with_reducible apply ZD)|((with_reducible apply Zb);(·exact rfl);(·exact rfl);(·exact ii)));refine ZB (W:=W) (h:=λ _=>none) ii ?_;intro w3 C0;clear B3;refine(Za1 C0 (i:=2) rfl).1.mono ?_;rintro e w4 ⟨rfl,hb⟩;have C1:Bt W (λ _=>none) _ w4:=Ze (Zf hb);clear hb C0;dsimp only;generalize w2.heap.size=px at *
   have CH:TqA (Kf ad2 n2 cap2 L2) 9 #[pV pb,.agg (KO wd ia icap sa scap),.slice ad2 n2 cap2] (star [Xn ((V.ub 1 r1).ub 2 r2) pb 2 r2 (1000000000-70010-2000000-70010) K wd,WlO (star (slW wd ia icap sa scap)) wd ia icap sa scap]) (Zi3 ((V.ub 1 r1).ub 2 r2) pb 2 r2 (1000000000-70010-2000000-70010-2000000) K (star (slW wd ia icap sa scap))) :=
    Zc3 (by omega) (by omega) ad2 n2 cap2 L2 hn HO.out ia sa icap scap _ λ h h' a b=>a.sub b
   have A0:Kf ad2 n2 cap2 L2 W (λ _=>none):=⟨A2,λ _ _ _=>rfl⟩
   have HCH:=Lib.hid CH;clear CH;go_wp2_with(first|((with_reducible apply Za);(·exact rfl);(·exact ii))|((with_reducible apply Zb);(·exact rfl);(·exact rfl);(·exact ii)));refine ZB (W:=W) (h:=λ _=>none) (l:=[Zd w4.heap.size (Jn 2 r2) 54,_,_,Xn ((V.ub 1 r1).ub 2 r2) pb 2 r2 (1000000000-70010-2000000-70010) K wd,WlO (star (slW wd ia icap sa scap)) wd ia icap sa scap,_]) ii ?_;intro w5 C2;clear C1;generalize w4.heap.size=pw at *
   have C3:=Bt.oS (C2) [3,4,0,1,2,5];have C4:=C3.app [_,_];clear C2 C3;refine(Bt.callA HCH.out A0 (B:=C4)).mono ?_;rintro e w6 ⟨v,q,rfl,hR,C5⟩;clear HCH A0 C4
   have hC:∃ wd',Bt W (λ _=>none) [Xn ((V.ub 1 r1).ub 2 r2) pb 2 r2 (1000000000-70010-2000000-70010-2000000) K wd',star (slW wd ia icap sa scap),Zd pw (Jn 2 r2) 54,Zd (px+1) (Yx (Yi wd.live) (Yf wd.live) (.slice ia wd.snaps.length icap) (.slice sa wd.snaps.length scap)) 39,Zd px V.cs 31,Zd W.heap.size #[.slice s.ad s.len s.cap,.int .i64 sz] 24] w6:=by
    rcases hR with ⟨H,X,b1,k1,e1,b2,k2,e2,wd',rfl,rfl⟩|⟨wd',ia',icap',sa',scap',_,rfl,rfl⟩
    ·exact⟨wd',C5.flat⟩
    ·exact⟨wd',C5.flat.map (i:=1) rfl λ h p=>p.2⟩
   clear C5 hR;obtain⟨wd',C6⟩:=hC;have SY:=VJ (V:=(V.ub 1 r1).ub 2 r2) (pb:=pb) (txg:=2) (root:=r2) (C:=1000000000-70010-2000000-70010-2000000) (K0:=K) (wd:=wd') (by omega) (by omega);dsimp only;go_wp2_with fail;refine(Bt.call SY).mono ?_;rintro e w7 ⟨v7,q7,rfl,hR,D1⟩;clear C6 SY;dsimp only;rcases hR with ⟨er,he,rfl,rfl⟩|⟨r3,rfl,rfl⟩
   ·have hne:(er !=0)=true:=by simp [he]
    clear he;go_wp2_with fail;go_ret;exact Bt.tru D1
   ·obtain⟨N,F,live3,ss,sl,ob,owk,ow,⟨⟨hN,nf3⟩,hH,hring⟩,D2⟩:=D1.poyd (by omega);have HN:=Lib.hid (And.intro hH (And.intro hring nf3));clear D1 hH hring nf3
    have D3:Bt W (λ _=>none) [ZE V N F,Zd pb (X7 V 3 r3 live3 ss sl ob owk ow) 82,star (slW wd ia icap sa scap),Zd pw (Jn 2 r2) 54,Zd (px+1) (Yx (Yi wd.live) (Yf wd.live) (.slice ia wd.snaps.length icap) (.slice sa wd.snaps.length scap)) 39,Zd px V.cs 31,Zd W.heap.size #[.slice s.ad s.len s.cap,.int .i64 sz] 24] w7:=by
     rw [<-ZE.gh V (V.u3 r1 r2 r3).rg V.ro];exact D2
    clear D2
    have vok:V.Ok:=by
     haveI:=Z0 (i:=0) D3 rfl;exact(Zo V F w7).1
    have hle:=vok.le;have hsec:16<V.secs:=by have:=vok.g.2.2.1;omega
    have HU:∀ w,[Zh w pb (X7 V 3 r3 live3 ss sl ob owk ow)]->Fn 8 #[pV pb] w (.agg (Jn 3 r3)):=λ w _=>ZaN V pb 3 r3 live3 ss sl ob owk ow w
    go_wp2_with fail
    go_loopw [12] (λ iv wr=>∃ d:Nat,d<=V.ds.length/\iv=.int .i64 d/\Bt W (λ _=>none) [ZE V (N+d) (zL F d 12),Zd pb (X7 V 3 r3 live3 ss sl ob owk ow) 82,star (slW wd ia icap sa scap),Zd pw (Jn 2 r2) 54,Zd (px+1) (Yx (Yi wd.live) (Yf wd.live) (.slice ia wd.snaps.length icap) (.slice sa wd.snaps.length scap)) 39,Zd px V.cs 31,Zd W.heap.size #[.slice s.ad s.len s.cap,.int .i64 sz] 24] wr)
     (λ iv _=>V.ds.length-(intOf iv).toNat)
    case atStart=>exact⟨0,Nat.zero_le _,rfl,by rw [Zmb];exact D3⟩
    case round =>
     clear D3;obtain⟨d,hd,rfl,B⟩:=hrel
     by_cases hlt:d<V.ds.length
     ·obtain⟨dd,hdd⟩:∃ dd,V.ds[d]?=some dd:=⟨_,List.getElem?_eq_getElem hlt⟩
      have HD:∀ w:World,[Zn V (zL F d 12) w]->w.cell? ⟨V.lb,d,none⟩=some (.pointer (some ⟨dd,0,none⟩)):=λ w _=>((Zo V _ w).2.2.2.2 d dd hdd).2.1
      have SP:Tq 11 #[.pointer (some ⟨dd,0,none⟩),.int .i64 12,.int .i64 9,.int .u8 1] (ZE V (N+d) (zL F d 12)) λ v q=>v=.bool true/\q=ZE V (N+d+1) (KE (zL F d 12) d 12 (spT (zL F d 12 d 12))):=Zht V (N+d) (zL F d 12) d dd 12 hdd (by omega) (by omega)
      rw [ZjD]at SP;have FL:∀ w:World,(Instr.field 54 (.agg (Jn 3 r3)) 0).run Tryz.prog w=.ok (.int .i64 3) w:=λ w=>by kernel_rfl
      haveI dv:=Z0 (i:=0) B rfl;haveI:Yc V.lb wr:=(Zo V _ wr).2.2.1;go_wp2_with fail;refine plZ (.q [0,1,2,3,4,5,6,7,8,9] (.x [10] .d)) ?_;simp only [Zk.run,pick,gZ,gS,gA,gN]
      (repeat(first|((with_reducible apply Zc);(·exact rfl);(·rintro _ ⟨gq,rfl⟩;exact ii);go_frame)|go_big_quiet_step (exact qZ)));refine nZ ?_
      refine Z4 ?_;intro w8 B1;clear B dv;go_wp2_with fail;refine(Bt.call SP).mono ?_;rintro e w9 ⟨v9,q9,rfl,⟨rfl,rfl⟩,B2⟩;clear B1 SP;dsimp only;go_wp2_with fail;dsimp only [Nx];rintro w10 hw10;have B3:Bt W (λ _=>none) [ZE V (N+d+1) (zL F (d+1) 12),_,_,_,_,_,_] w10:=Ze hw10;clear hw10 B2;go_wp2_with fail;exact⟨⟨d+1,hlt,by go_num,B3⟩,by simp [intOf];omega⟩
     ·obtain rfl:V.ds.length=d:=by omega
      haveI:=HF.out.2.2.2.1;haveI:=HG.out.2.1;haveI:=HN.out.2.2
      have hF:∀ d k,k<16->zL F V.ds.length 12 d k=zL (V.u3 r1 r2 r3).rg V.ds.length 12 d k:=λ d k hk=>by
       unfold zL;rw [HN.out.2.1 d k hk]
      have HB:∀ w,Zn V (zL F V.ds.length 12) w->Fn 33 #[V.v] w (.tuple #[.agg (Jn 2 r2),.int .i64 0]):=λ w D=>ZgW HG.out.1 HG.out.2.2 HF.out.2.2.2.2 hF w D
      have IM:Tq 12 #[V.v] (ZE V (N+V.ds.length) (zL F V.ds.length 12)) λ v q=>∃ qb,v=.tuple #[pV qb,.int .i64 0]/\q=Xn { V with rg:=zL F V.ds.length 12,ro:=true } qb 2 r2 0 (λ _ _=>False) wd:=by
       rw [<-ZE.gh V (zL F V.ds.length 12) true]
       exact ZeB (V:={ V with rg:=zL F V.ds.length 12,ro:=true }) (K:=K) (txg:=2) (root:=r2) (live:=live) (l:=l) (wd:=wd) (N+V.ds.length) (zL F V.ds.length 12) (by omega) rfl (by omega) (λ p t hp=>Zji vok.g (HN.out.1 p t hp) _) HF.out.2.2.1 (λ _ _ _=>rfl) HF.out.1 HF.out.2.1
        (λ w D=>HB w D.gh) (λ F' hF' d w hd D=>ZfK (k:=2) HG.out.1 HG.out.2.2 HF.out.2.2.2.2 (λ d k hk=>(hF' d k hk).trans (hF d k hk)) d w hd (by omega) D.gh)
      clear HB hF;go_wp2_with((with_reducible apply Za);(·exact rfl);(·exact ii));refine(Bt.call IM).mono ?_;rintro e w8 ⟨v8,q8,rfl,⟨qb,rfl,rfl⟩,E1⟩;clear IM B HU hle hsec vok HN HG HF;dsimp only;have E2:=Bt.oS (E1) [2,0,1,3,4,5,6];have E3:=E2.flat;simp only [slW,List.cons_append,List.nil_append]at E3;have E4:=Bt.oS (E3) [2,0,1,3,4,5,6,7];clear E1 E2 E3;have SM:=Zf0 (V:={ V with rg:=zL F V.ds.length 12,ro:=true }) (pb:=qb) (txg:=2) (root:=r2) (C:=0) (K0:=λ _ _=>False) (wd:=wd) (by omega) HO.out ia sa icap scap;have E5:=E4.app [_,_,_];clear E4
      haveI HU2:∀ g:Gr,Fn 8 #[pV qb] (gr w8 g) (.agg (Jn 2 r2)):=λ g=>by
       have hc:YL w8 (gr w8 g):=⟨g,rfl⟩
       have hb:Bt W (λ _=>none) _ (gr w8 g):=Ze hc;exact Za1 hb.flat (i:=0) rfl
      have QU:=λ w=>Zb4 w 2 r2
      go_wp2_with fail;refine plZ (.q [0,1,2,3,4,5,6,7,8,9,10] (.x [11] (.q [12,13,14] .d))) ?_;simp only [Zk.run,pick,gZ,gS,gA,gN]
      (repeat(first|((with_reducible apply Zc);(·exact rfl);(·rintro _ ⟨gq,rfl⟩;exact ii);go_frame)|((with_reducible apply Uq);(·exact rfl);(·exact rfl);(·rintro _ ⟨gq,rfl⟩;exact ii);go_frame)|go_big_quiet_step (first|(with_reducible exact Fn.cls)|(with_reducible exact Fn.cls2)|(exact λ _=>rfl))));refine wpQuiet_nil ?_
      refine Z4 ?_;intro w9 E6;clear E5 HU2;go_wp2_with fail;refine(Bt.call SM).mono ?_;rintro e w10 ⟨v9,q9,rfl,⟨rfl,rfl⟩,E7⟩;clear E6 SM;dsimp only;go_wp2_with fail;dsimp only [Nx]
      (repeat(first|((with_reducible apply Zc);(·exact rfl);(·rintro _ ⟨gq,rfl⟩;exact ii);go_frame)|go_big_quiet_step (exact qZ)));refine nZ ?_
      refine Z4 ?_;intro w11 E8;clear E7;go_wp2_with fail;go_ret;exact Bt.tru E8
 ·go_in
  go_wp2_with(with_reducible refine Fn.go λ g=>?_);go_ret;exact Bt.tru (l:=[_]) ii
theorem Tryz.cellsGeom:Tryz.prog.cellsOf 24=2:=by kernel_rfl
theorem Tryz.cellsGroup:Tryz.prog.cellsOf 67=2:=by kernel_rfl
theorem Tryz.cellsI:Tryz.prog.cellsOf 3=1:=by kernel_rfl
section
open Go.ChangeShapes Go.WideShapes Go.Joins
theorem Zep{H:Type}{enc:TypeId × Value->H}{W:World}{base:Nat}{v:Value}{d:DataW H}{ps:List MemPlace}
  (hv:Value.okWide Tryz.prog W .any base 24 v) (h:DataW.Trod enc Tryz.prog W 0 (λ _=>true) true 24 v d ps) :
  ∃(s:ZO)(secs:Int),v=.agg #[.slice s.ad s.len s.cap,.int .i64 secs]/\s.len<=9223372036854775807/\GM s W:=by
 obtain⟨c0,c1,y0,y1,m,rfl,rfl,rfl,hy0,hy1⟩:=open_agg2 Tryz.underlying24 (by kernel_rfl) Tryz.cellsGeom hv h;obtain⟨secs,e1,_,wf⟩:=DataW.trod_int Tryz.underlying3 hy1;obtain⟨ad,blk,off,len,cap,x,y,rfl,hm,had,hf,ht⟩:=ZgC Tryz.underlying22 Tryz.underlying67 Tryz.cellsGroup Tryz.underlying3 Tryz.cellsI rfl rfl rfl rfl hy0;simp at e1;subst e1;unfold maxLen at hm;exact⟨⟨ad,blk,off,len,cap,x,y⟩,secs,rfl,by simp only;omega,⟨λ k hk=>(had k hk).1,λ k hk=>(had k hk).2,hf,ht⟩⟩
theorem ZjW:jY 4 Tryz.f4.params:=by
 intro H enc W base args ds p hval hA _ _;rw [Tryz.params4]at hA hval;obtain⟨v0,vs,d0,ds1,p0,q1,h1,rfl,rfl,h0,hr1⟩:=trodAll_cons hA;obtain⟨v1,vs2,d1,ds2,p1,q2,rfl,rfl,rfl,hg1,hr2⟩:=trodAll_cons hr1;obtain⟨v2,vs3,d2,ds3,p2,q3,rfl,rfl,rfl,hg2,hr3⟩:=trodAll_cons hr2;obtain⟨rfl,rfl,rfl⟩:=trodAll_nil hr3;obtain rfl:args=#[v0,v1,v2]:=by apply Array.ext';exact h1
 obtain⟨s,sz,rfl,hs,gs⟩:=Zep (hval 0 24 v0 rfl rfl) h0;obtain⟨ad,n,cap,L,rfl,hn,R⟩:=UL (hval 1 25 v1 rfl rfl) hg1;obtain⟨ad2,n2,cap2,L2,rfl,hn2,R2⟩:=UL (hval 2 25 v2 rfl rfl) hg2;exact Zk3 s sz hs ad n cap L ad2 n2 cap2 L2 W R R2
end
theorem card:Rows.WholeOldCardSaid:=Ziy ZjW
end Go.Proofs.YtlfjdjndhcmliaaGreatDoor
