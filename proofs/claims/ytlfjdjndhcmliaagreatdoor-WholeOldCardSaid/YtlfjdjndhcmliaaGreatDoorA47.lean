/- WholeOld, part 47. -/
import Derived.Test.YtlfjdjndhcmliaaGreatDoorA39
set_option maxRecDepth 100000
set_option maxHeartbeats 4000000
set_option linter.all false
namespace Go.Proofs.YtlfjdjndhcmliaaGreatDoor
open Go.RowKit Go.Sort
theorem X2{fn:Func}{u p v:Tmp}{ty:TypeId}{z:Nat}(h:fn.results=#[.tmp u,.cell p ty,.tmp v])(tmps:Array Value)(w:World)(b:Nat)(cs:Array Value)(hp:tmps.getD p undef=.pointer (some ⟨b,0,none⟩))(hs:ZJ b 0 cs z w){d:TypeDesc}
  (hu:Tryz.prog.underlying ty=some d) (hd:Zek d=true) (hi:(Tryz.prog.info? ty).map (·.size)=some z):(results fn tmps).run Tryz.prog w=.ok (.tuple #[tmps.getD u undef,.agg cs,tmps.getD v undef]) w:=by
 have hp':tmps[p]?.getD undef=.pointer (some ⟨b,0,none⟩):=by simpa using hp
 have hl:(loadVar ty ⟨b,0,none⟩).run Tryz.prog w=.ok (.agg cs) w:=by
  cases d<;>first|exact Ys (P:=Tryz.prog) w b 0 z cs ty _ hu rfl hi|cases hd
 unfold results;rw [h];simp [hp',asAddr,hl]
def Zco(x:Value):Prop:=∃ a1 n1 c1 z a2 n2 c2 a3 n3 c3,x=.agg #[.slice a1 n1 c1,.int .i64 z,.slice a2 n2 c2,.slice a3 n3 c3]
theorem VD.isDv(V:VD):Zco V.v:=⟨_,_,_,_,_,_,_,_,_,_,rfl⟩
def Zjo(W:World)(e:Ending)(w':World):Prop:=∃ q,Zg W (λ _=>none) q w'/\((∃ p x,Zco x/\e=.returned (.tuple #[.pointer p,x,.bool false])/\q=star []) \/
 ∃(V:VD)(pb:Nat)(n':Nd),(V.rg=(λ _ _=>Z1 0)/\V.ro=false)/\e=.returned (.tuple #[pV pb,V.v,.bool true])/\q=PoY (V.ub 1 n') pb 1 n' (1000000000-70010) (λ _ _=>False) ⟨λ _=>none,[]⟩)
theorem zt{W w:World}{l:List SP}{q:SP}{v:Value}(B:Bt W (λ _=>none) l w)(k:∀ w',Bt W (λ _=>none) l w'->Zg W (λ _=>none) q w')(h:(∃ p x,Zco x/\v=.tuple #[.pointer p,x,.bool false]/\q=star [])\/∃(V:VD)(pb:Nat)(n':Nd),(V.rg=(λ _ _=>Z1 0)/\V.ro=false)/\v=.tuple #[pV pb,V.v,.bool true]/\q=PoY (V.ub 1 n') pb 1 n' (1000000000-70010) (λ _ _=>False) ⟨λ _=>none,[]⟩):Zjo W (.returned v) w:=by
 refine⟨q,k w B,?_⟩;rcases h with ⟨p,x,h1,rfl,h2⟩|⟨V,pb,n',h0,rfl,h2⟩
 ·exact .inl ⟨p,x,h1,rfl,h2⟩
 ·exact .inr ⟨V,pb,n',h0,rfl,h2⟩
theorem ZhW(s:ZO)(secs:Nat)[gk:Ky s secs](h400:secs<=400)(h12:YB s s.len<=12)(W:World)[gm:GM s W](hb:s.blk<W.heap.size) :
  Calls Tryz.prog 14 #[.agg #[.slice s.ad s.len s.cap,.int .i64 secs]] W (Zjo W):=by
 have hlen:s.len<=4:=gk.h.2.1;have VN:=λ(w:World)(_:GM s w)(hb:s.blk<w.heap.size)=>Zi5 s secs 0 w hb
 generalize hn:YB s s.len=n at h12;have GD:∀ w,[GM s w]->Fn 42 #[.agg #[.slice s.ad s.len s.cap,.int .i64 secs]] w (.int .i64 n):=λ w _=>by rw [<-hn];infer_instance
 clear hn;haveI BZ:=Bt.zero W
 go_in
 go_wp2_with(first|(with_reducible refine Fn.go λ g=>?_)|((with_reducible apply Za);(·exact rfl);(·exact ii)));refine(VN _ ii (by rw [Yl];simp only [World.size_alloc];omega)).mono ?_;rintro e w2 ⟨V,rfl,hv1,⟨hv2,hrg,hro⟩,T⟩;clear hv1 hv2;have B1:=Bt.join (W:=W) (h:=λ _=>none) ii T.new1.1 T.new1.2;clear T VN GD;dsimp only;have CR:=ZdY (V:=V) 0 1000000000 (λ _ _=>Z1 0) (λ _ _ _=>by rw [hrg]) hro (by omega) (by omega);have HV:=Lib.hid (And.intro hrg hro);clear hrg hro;go_wp2_with(first|((with_reducible apply Za);(·exact rfl);(·exact ii))|((with_reducible apply Zb);(·exact rfl);(·exact rfl);(·exact ii)));refine(Bt.call CR).mono ?_;rintro e w3 ⟨v,q,rfl,hR,B2⟩;clear B1 CR BZ;dsimp only;have hv:∃(p:Option Addr)(er:Int),v=.tuple #[.pointer p,.int .i64 er]:=by rcases hR with ⟨er,_,rfl,_⟩|⟨_,_,rfl,_⟩<;>exact⟨_,_,rfl⟩
 obtain⟨p,er,hv⟩:=hv;rcases hR with ⟨er,he,rfl,rfl⟩|⟨pb,n',rfl,rfl⟩
 ·have hne:(er==0)=false:=by simp [he]
  clear he hv;go_wp2_with fail;refine plZ (.q [0,1,4] (.f [2,3] (.x [5] (.q [6] .d)))) ?_;simp only [Zk.run,pick,gZ,gS,gA,gN]
  (repeat(first|((with_reducible apply Zc);(·exact rfl);(·rintro _ ⟨gq,rfl⟩;exact ii);go_frame)|go_big_quiet_step (exact qZ)));refine nZ ?_
  (repeat go_big_quiet_step (exact qZ));refine nZ ?_
  refine Z4 ?_;intro w4 B3;clear B2;go_wp2_with((with_reducible apply Zb);(·exact rfl);(·exact rfl);(·exact ii));dsimp only [Nx]
  (repeat go_big_quiet_step (exact qZ));refine nZ ?_
  refine Z4 ?_;intro w5 B4;clear B3;go_wp2_with fail
  (refine bodyPost_ret (X2 (z:=4) rfl _ _ _ _ rfl ii Tryz.underlying31 rfl (by kernel_rfl)) rfl ?_)
  exact zt B4 (λ w' B=>B.t.mono λ _ _=>trivial) (.inl ⟨_,_,V.isDv,rfl,rfl⟩)
 ·clear hv;go_wp2_with fail;refine plZ (.q [0,1,4] (.f [2,3] (.x [5] (.q [6] .d)))) ?_;simp only [Zk.run,pick,gZ,gS,gA,gN]
  (repeat(first|((with_reducible apply Zc);(·exact rfl);(·rintro _ ⟨gq,rfl⟩;exact ii);go_frame)|go_big_quiet_step (exact qZ)));refine nZ ?_
  (repeat go_big_quiet_step (exact qZ));refine nZ ?_
  refine Z4 ?_;intro w4 B3;clear B2;go_wp2_with((with_reducible apply Zb);(·exact rfl);(·exact rfl);(·exact ii));dsimp only [Nx]
  (repeat go_big_quiet_step (exact qZ));refine nZ ?_
  refine Z4 ?_;intro w5 B4;clear B3;go_wp2_with fail
  (refine bodyPost_ret (X2 (z:=4) rfl _ _ _ _ rfl ii Tryz.underlying31 rfl (by kernel_rfl)) rfl ?_)
  exact zt B4 (λ w' B=>B.fin_at 1 rfl) (.inr ⟨V,pb,n',HV.out,rfl,rfl⟩)
theorem Zco.zero:Zco (.agg #[.slice none 0 0,.int .i64 0,.slice none 0 0,.slice none 0 0]):=⟨_,_,_,_,_,_,_,_,_,_,rfl⟩
theorem ZgH(s:ZO)(secs:Int)(hs:s.len<=9223372036854775807)(hn:¬ (ZT s secs/\secs<=400/\YB s s.len<=12))(W:World)[gm:GM s W] :
  Calls Tryz.prog 14 #[.agg #[.slice s.ad s.len s.cap,.int .i64 secs]] W (Zjo W):=by
 haveI BZ:=Bt.zero W
 by_cases h4:s.len<=4
 ·by_cases h400:secs<=400
  ·by_cases hg:ZT s secs
   ·haveI:Ky s secs:=⟨hg⟩
    have h12:¬ YB s s.len<=12:=λ h=>hn ⟨hg,h400,h⟩
    generalize e:YB s s.len=n at h12;have GD:∀ w,[GM s w]->Fn 42 #[.agg #[.slice s.ad s.len s.cap,.int .i64 secs]] w (.int .i64 n):=λ w _=>by rw [<-e];infer_instance
    clear e hn hg
    go_in
    go_wp2_with(first|(with_reducible refine Fn.go λ g=>?_)|((with_reducible apply Zb);(·exact rfl);(·exact rfl);(·exact ii)))
    (refine bodyPost_ret (X2 (z:=4) rfl _ _ _ _ rfl ii Tryz.underlying31 rfl (by kernel_rfl)) rfl ?_)
    exact zt (W:=W) ii (λ w' B=>B.t.mono λ _ _=>trivial) (.inl ⟨_,_,.zero,rfl,rfl⟩)
   ·have GR:∀ w,[GM s w]->Fn 13 #[.agg #[.slice s.ad s.len s.cap,.int .i64 secs]] w (.bool false):=λ w _=>⟨kA hg hs w⟩
    clear hn hg
    go_in
    go_wp2_with(first|(with_reducible refine Fn.go λ g=>?_)|((with_reducible apply Zb);(·exact rfl);(·exact rfl);(·exact ii)))
    (refine bodyPost_ret (X2 (z:=4) rfl _ _ _ _ rfl ii Tryz.underlying31 rfl (by kernel_rfl)) rfl ?_)
    exact zt (W:=W) ii (λ w' B=>B.t.mono λ _ _=>trivial) (.inl ⟨_,_,.zero,rfl,rfl⟩)
  ·clear hn
   go_in
   go_wp2_with((with_reducible apply Zb);(·exact rfl);(·exact rfl);(·exact ii))
   (refine bodyPost_ret (X2 (z:=4) rfl _ _ _ _ rfl ii Tryz.underlying31 rfl (by kernel_rfl)) rfl ?_)
   exact zt (W:=W) ii (λ w' B=>B.t.mono λ _ _=>trivial) (.inl ⟨_,_,.zero,rfl,rfl⟩)
 ·clear hn
  go_in
  go_wp2_with((with_reducible apply Zb);(·exact rfl);(·exact rfl);(·exact ii))
  (refine bodyPost_ret (X2 (z:=4) rfl _ _ _ _ rfl ii Tryz.underlying31 rfl (by kernel_rfl)) rfl ?_)
  exact zt (W:=W) ii (λ w' B=>B.t.mono λ _ _=>trivial) (.inl ⟨_,_,.zero,rfl,rfl⟩)
end Go.Proofs.YtlfjdjndhcmliaaGreatDoor
