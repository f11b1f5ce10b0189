/- WholeGeoms, part 38. -/
import Derived.Test.YtlfjdjndhcmliaaGreatDoorA29
import Derived.Test.YtlfjdjndhcmliaaGreatDoorA37
import Derived.Test.YtlfjdjndhcmliaaGreatDoorA04
set_option maxRecDepth 100000
set_option maxHeartbeats 4000000
set_option linter.all false
namespace Go.Proofs.YtlfjdjndhcmliaaGreatDoor
open Go.RowKit Go.Sort
theorem results_tat {fn:Func} {u p v:Tmp} {ty:TypeId} {z:Nat} (h:fn.results=#[.tmp u,.cell p ty,.tmp v]) (tmps:Array Value) (w:World) (b:Nat) (cs:Array Value) (hp:tmps.getD p undef=.pointer (some ⟨b,0,none⟩)) (hs:SubAt b 0 cs z w) {d:TypeDesc}
  (hu:Tryz.prog.underlying ty=some d) (hd:isAg d=true) (hi:(Tryz.prog.info? ty).map (·.size)=some z):(results fn tmps).run Tryz.prog w=.ok (.tuple #[tmps.getD u undef,.agg cs,tmps.getD v undef]) w:=by
 have hp':tmps[p]?.getD undef=.pointer (some ⟨b,0,none⟩):=by simpa using hp
 have hl:(loadVar ty ⟨b,0,none⟩).run Tryz.prog w=.ok (.agg cs) w:=by
  cases d <;> first | exact run_loadVarSub (P:=Tryz.prog) w b 0 z cs ty _ hu rfl hi | cases hd
 unfold results
 rw [h]
 simp [hp',asAddr,hl]
def IsDv (x:Value):Prop:=∃ a1 n1 c1 z a2 n2 c2 a3 n3 c3,x=.agg #[.slice a1 n1 c1,.int .i64 z,.slice a2 n2 c2,.slice a3 n3 c3]
theorem VD.isDv (V:VD):IsDv V.v:=⟨_,_,_,_,_,_,_,_,_,_,rfl⟩
def FreR (W:World) (e:Ending) (w':World):Prop:=∃ q,Turns W (λ _=>none) q w'/\((∃ p x,IsDv x/\e=.returned (.tuple #[.pointer p,x,.bool false])/\q=star []) \/
 ∃ (V:VD) (pb:Nat) (n':Nd),e=.returned (.tuple #[pV pb,V.v,.bool true])/\q=PoS V pb 1 n' (1000000000 - 70010) (λ _ _=>False) ⟨λ _=>none,[]⟩)
theorem fre_end {W w:World} {l:List SP} {q:SP} {v:Value} (B:Bt W (λ _=>none) l w) (k:∀ w',Bt W (λ _=>none) l w'->Turns W (λ _=>none) q w') (h:(∃ p x,IsDv x/\v=.tuple #[.pointer p,x,.bool false]/\q=star [])\/∃ (V:VD) (pb:Nat) (n':Nd),v=.tuple #[pV pb,V.v,.bool true]/\q=PoS V pb 1 n' (1000000000 - 70010) (λ _ _=>False) ⟨λ _=>none,[]⟩):FreR W (.returned v) w:=by
 refine ⟨q,k w B,?_⟩
 rcases h with ⟨p,x,h1,rfl,h2⟩ | ⟨V,pb,n',rfl,h2⟩
 ·exact .inl ⟨p,x,h1,rfl,h2⟩
 ·exact .inr ⟨V,pb,n',rfl,h2⟩
theorem fresh_at (s:Slc) (secs:Nat) [gk:Geo s secs] (h400:secs<=400) (h12:sumW s s.len<=12) (W:World) [gm:GM s W] (hb:s.blk < W.heap.size) :
  Calls Tryz.prog 14 #[.agg #[.slice s.ad s.len s.cap,.int .i64 secs]] W (FreR W):=by
 have hlen:s.len<=4:=gk.h.2.1
 have VN:=λ (w:World) (_:GM s w) (hb:s.blk < w.heap.size)=>vnew_at s secs 0 w hb
 generalize hn:sumW s s.len=n at h12
 have GD:∀ w,[GM s w]->Fn 42 #[.agg #[.slice s.ad s.len s.cap,.int .i64 secs]] w (.int .i64 n):=λ w _=>by rw [<-hn];infer_instance
 clear hn
 haveI BZ:=Bt.zero W
 go_enter Tryz.func14,Tryz.ntmps14
 go_wp2_with (first | (with_reducible refine Fn.go λ g=>?_) | ((with_reducible apply wpList_load);(·exact rfl);(·exact ii)))
 refine (VN _ ii (by rw [gr_size];simp only [World.size_alloc];omega)).mono ?_
 rintro e w2 ⟨V,rfl,hv1,hv2,T⟩
 clear hv1 hv2
 have B1:=Bt.join (W:=W) (h:=λ _=>none) ii T.new1.1 T.new1.2
 clear T VN GD
 dsimp only
 have CR:=create_tq (V:=V) 0 1000000000 (λ _ _=>blankS 0) (by omega) (by omega)
 go_wp2_with (first | ((with_reducible apply wpList_load);(·exact rfl);(·exact ii)) | ((with_reducible apply wpList_store);(·exact rfl);(·exact rfl);(·exact ii)))
 refine (Bt.call CR).mono ?_
 rintro e w3 ⟨v,q,rfl,hR,B2⟩
 clear B1 CR BZ
 dsimp only
 have hv:∃ (p:Option Addr) (er:Int),v=.tuple #[.pointer p,.int .i64 er]:=by rcases hR with ⟨er,_,rfl,_⟩ | ⟨_,_,rfl,_⟩ <;> exact ⟨_,_,rfl⟩
 obtain ⟨p,er,hv⟩:=hv
 rcases hR with ⟨er,he,rfl,rfl⟩ | ⟨pb,n',rfl,rfl⟩
 ·have hne:(er == 0)=false:=by simp [he]
  clear he hv
  go_wp2_with fail
  (first | (with_reducible refine pl2 (.q [0,1,4] (.f [2,3] (.x [5] (.q [6] .d)))) ?_) | refine pl1 (.q [0,1,4] (.f [2,3] (.x [5] (.q [6] .d)))) ?_);simp only [Plan.run,pick,gZ,gS,gA,gN]
  (repeat (first | ((with_reducible apply wpQuiet_load);(·exact rfl);(·rintro _ ⟨gq,rfl⟩;exact ii);go_frame) | go_big_quiet_step (exact qZ)));refine nZ ?_
  (repeat go_big_quiet_step (exact qZ));refine nZ ?_
  refine btI ?_
  intro w4 B3
  clear B2
  go_wp2_with ((with_reducible apply wpList_store);(·exact rfl);(·exact rfl);(·exact ii))
  dsimp only [Nx]
  (repeat go_big_quiet_step (exact qZ));refine nZ ?_
  refine btI ?_
  intro w5 B4
  clear B3
  go_wp2_with fail
  (refine bodyPost_ret (results_tat (z:=4) rfl _ _ _ _ rfl ii Tryz.underlying31 rfl (by kernel_rfl)) rfl ?_)
  exact fre_end B4 (λ w' B=>B.t.mono λ _ _=>trivial) (.inl ⟨_,_,V.isDv,rfl,rfl⟩)
 ·clear hv
  go_wp2_with fail
  (first | (with_reducible refine pl2 (.q [0,1,4] (.f [2,3] (.x [5] (.q [6] .d)))) ?_) | refine pl1 (.q [0,1,4] (.f [2,3] (.x [5] (.q [6] .d)))) ?_);simp only [Plan.run,pick,gZ,gS,gA,gN]
  (repeat (first | ((with_reducible apply wpQuiet_load);(·exact rfl);(·rintro _ ⟨gq,rfl⟩;exact ii);go_frame) | go_big_quiet_step (exact qZ)));refine nZ ?_
  (repeat go_big_quiet_step (exact qZ));refine nZ ?_
  refine btI ?_
  intro w4 B3
  clear B2
  go_wp2_with ((with_reducible apply wpList_store);(·exact rfl);(·exact rfl);(·exact ii))
  dsimp only [Nx]
  (repeat go_big_quiet_step (exact qZ));refine nZ ?_
  refine btI ?_
  intro w5 B4
  clear B3
  go_wp2_with fail
  (refine bodyPost_ret (results_tat (z:=4) rfl _ _ _ _ rfl ii Tryz.underlying31 rfl (by kernel_rfl)) rfl ?_)
  exact fre_end B4 (λ w' B=>B.fin_at 1 rfl) (.inr ⟨V,pb,n',rfl,rfl⟩)
theorem IsDv.zero:IsDv (.agg #[.slice none 0 0,.int .i64 0,.slice none 0 0,.slice none 0 0]):=⟨_,_,_,_,_,_,_,_,_,_,rfl⟩
theorem fresh_no (s:Slc) (secs:Int) (hs:s.len<=9223372036854775807) (hn:¬ (goodG s secs/\secs<=400/\sumW s s.len<=12)) (W:World) [gm:GM s W] :
  Calls Tryz.prog 14 #[.agg #[.slice s.ad s.len s.cap,.int .i64 secs]] W (FreR W):=by
 haveI BZ:=Bt.zero W
 by_cases h4:s.len<=4
 ·by_cases h400:secs<=400
  ·by_cases hg:goodG s secs
   ·haveI:Geo s secs:=⟨hg⟩
    have h12:¬ sumW s s.len<=12:=λ h=>hn ⟨hg,h400,h⟩
    generalize e:sumW s s.len=n at h12
    have GD:∀ w,[GM s w]->Fn 42 #[.agg #[.slice s.ad s.len s.cap,.int .i64 secs]] w (.int .i64 n):=λ w _=>by rw [<-e];infer_instance
    clear e hn hg
    go_enter Tryz.func14,Tryz.ntmps14
    go_wp2_with (first | (with_reducible refine Fn.go λ g=>?_) | ((with_reducible apply wpList_store);(·exact rfl);(·exact rfl);(·exact ii)))
    (refine bodyPost_ret (results_tat (z:=4) rfl _ _ _ _ rfl ii Tryz.underlying31 rfl (by kernel_rfl)) rfl ?_)
    exact fre_end (W:=W) ii (λ w' B=>B.t.mono λ _ _=>trivial) (.inl ⟨_,_,.zero,rfl,rfl⟩)
   ·have GR:∀ w,[GM s w]->Fn 13 #[.agg #[.slice s.ad s.len s.cap,.int .i64 secs]] w (.bool false):=λ w _=>⟨right_no hg hs w⟩
    clear hn hg
    go_enter Tryz.func14,Tryz.ntmps14
    go_wp2_with (first | (with_reducible refine Fn.go λ g=>?_) | ((with_reducible apply wpList_store);(·exact rfl);(·exact rfl);(·exact ii)))
    (refine bodyPost_ret (results_tat (z:=4) rfl _ _ _ _ rfl ii Tryz.underlying31 rfl (by kernel_rfl)) rfl ?_)
    exact fre_end (W:=W) ii (λ w' B=>B.t.mono λ _ _=>trivial) (.inl ⟨_,_,.zero,rfl,rfl⟩)
  ·clear hn
   go_enter Tryz.func14,Tryz.ntmps14
   go_wp2_with ((with_reducible apply wpList_store);(·exact rfl);(·exact rfl);(·exact ii))
   (refine bodyPost_ret (results_tat (z:=4) rfl _ _ _ _ rfl ii Tryz.underlying31 rfl (by kernel_rfl)) rfl ?_)
   exact fre_end (W:=W) ii (λ w' B=>B.t.mono λ _ _=>trivial) (.inl ⟨_,_,.zero,rfl,rfl⟩)
 ·clear hn
  go_enter Tryz.func14,Tryz.ntmps14
  go_wp2_with ((with_reducible apply wpList_store);(·exact rfl);(·exact rfl);(·exact ii))
  (refine bodyPost_ret (results_tat (z:=4) rfl _ _ _ _ rfl ii Tryz.underlying31 rfl (by kernel_rfl)) rfl ?_)
  exact fre_end (W:=W) ii (λ w' B=>B.t.mono λ _ _=>trivial) (.inl ⟨_,_,.zero,rfl,rfl⟩)
theorem results_tccts {fn:Func} {u p p2 v:Tmp} {ty ty2:TypeId} {z z2:Nat} (h:fn.results=#[.tmp u,.cell p ty,.cell p2 ty2,.tmp v]) (tmps:Array Value) (w:World) (b b2:Nat) (cs cs2:Array Value) (hp:tmps.getD p undef=.pointer (some ⟨b,0,none⟩)) (hp2:tmps.getD p2 undef=.pointer (some ⟨b2,0,none⟩)) (hs:SubAt b 0 cs z w) (hs2:SubAt b2 0 cs2 z2 w) {d d2:TypeDesc}
  (hu:Tryz.prog.underlying ty=some d) (hd:isAg d=true) (hi:(Tryz.prog.info? ty).map (·.size)=some z) (hu2:Tryz.prog.underlying ty2=some d2) (hd2:isAg d2=true) (hi2:(Tryz.prog.info? ty2).map (·.size)=some z2):(results fn tmps).run Tryz.prog w=.ok (.tuple #[tmps.getD u undef,.agg cs,.agg cs2,tmps.getD v undef]) w:=by
 have hp':tmps[p]?.getD undef=.pointer (some ⟨b,0,none⟩):=by simpa using hp
 have hp2':tmps[p2]?.getD undef=.pointer (some ⟨b2,0,none⟩):=by simpa using hp2
 have hl:(loadVar ty ⟨b,0,none⟩).run Tryz.prog w=.ok (.agg cs) w:=by
  cases d <;> first | exact run_loadVarSub (P:=Tryz.prog) w b 0 z cs ty _ hu rfl hi | cases hd
 have hl2:(loadVar ty2 ⟨b2,0,none⟩).run Tryz.prog w=.ok (.agg cs2) w:=by
  cases d2 <;> first | exact run_loadVarSub (P:=Tryz.prog) w b2 0 z2 cs2 ty2 _ hu2 rfl hi2 | cases hd2
 unfold results
 rw [h]
 simp [hp',hp2',asAddr,hl,hl2]
theorem fresh_any (s:Slc) (secs:Int) (hs:s.len<=9223372036854775807) (W:World) [gm:GM s W] :
  Calls Tryz.prog 14 #[.agg #[.slice s.ad s.len s.cap,.int .i64 secs]] W (FreR W):=by
 by_cases h:goodG s secs/\secs<=400/\sumW s s.len<=12
 ·obtain ⟨h1,h2,h3⟩:=h
  obtain ⟨n,rfl⟩:=Int.eq_ofNat_of_zero_le (show 0<=secs by have:=h1.2.2.1;omega)
  haveI:Geo s n:=⟨h1⟩
  exact fresh_at s n (by omega) h3 W (gm.old 0 h1.1)
 ·exact fresh_no s secs hs h W
theorem in_two {W w:World} {h:Hl} {l:List SP} {p q:SP} (B:Bt W h (p::q::l) w):In (star [p,q]) w:=by
 obtain ⟨h0,s,hw⟩:=(B.app [p,q]).mem (i:=0) rfl
 exact ⟨h0,s,hw⟩
def LaiR (W:World) (e:Ending) (w':World):Prop:=∃ q p x H X a1 n1 c1 a2 n2 c2 b,e=.returned (.tuple #[.pointer p,x,.agg (wlC H X (.slice a1 n1 c1) (.slice a2 n2 c2)),.bool b])/\IsDv x/\Turns W (λ _=>none) q w' /\
 ((b=false/\q=star [])\/(b=true/\∃ (V:VD) (pb:Nat) (root:Nd) (C:Nat) (wd:Wd) (ia:Option Addr) (icap:Nat) (sa:Option Addr) (scap:Nat),p=some ⟨pb,0,none⟩/\WdOk wd/\wlC H X (.slice a1 n1 c1) (.slice a2 n2 c2)=wlW wd ia icap sa scap/\q=star (PoS V pb 2 root C (λ _ _=>False) wd::slW wd ia icap sa scap)))
theorem lai_no {W w:World} {l:List SP} {p:Option Addr} {x:Value} {H:Nat->Bool} {X:Nat->ByteArray} {a1 a2:Option Addr} {n1 c1 n2 c2:Nat} (B:Bt W (λ _=>none) l w) (hx:IsDv x):LaiR W (.returned (.tuple #[.pointer p,x,.agg (wlC H X (.slice a1 n1 c1) (.slice a2 n2 c2)),.bool false])) w :=
 ⟨star [],_,_,_,_,_,_,_,_,_,_,_,rfl,hx,B.t.mono λ _ _=>trivial,.inl ⟨rfl,rfl⟩⟩
abbrev noW:Wd:=⟨λ _=>none,[]⟩
theorem noW_ok:WdOk noW:=⟨by simp,by simp,by simp,by simp,by simp⟩
section
variable {ops:Array Oper} {rest:List Oper} {Kq:Act->Prop} {a:Act} {Cw:World->Prop} {d:Option Tmp} {ty:TypeId} {pos:String} {aft:Array Edge}
theorem wpQuiet_buildW (h:wpQuiet Tryz.prog ops Cw Kq rest (a.put d (.agg wl0))):wpQuiet Tryz.prog ops Cw Kq ({ dst:=d,op:=.build 39 #[],type:=ty,pos:=pos,after:=aft,guard:=none }::rest) a:=by
 refine wpQuiet_value (v:=.agg _) rfl (λ w hw=>?_) h
 simp only [execOp,List.map_toArray,List.map_nil,Sem.run_bind,bldWl.run w,Result.andThen_ok,Sem.run_pure]
end
theorem laid_at (s:Slc) (secs:Int) (hs:s.len<=9223372036854775807) (ad:Option Addr) (n cap:Nat) (L:List AcV) (hn:n<=12) (W:World) [gm:GM s W] (A:RdS 5 ad n cap (L.map λ a=>a.cs.toList) W) :
  Calls Tryz.prog 6 #[.agg #[.slice s.ad s.len s.cap,.int .i64 secs],.slice ad n cap] W (LaiR W):=by
 have FR:=λ (w:World) (_:GM s w)=>fresh_any s secs hs w
 haveI BZ:=Bt.zero W
 go_enter Tryz.func6,Tryz.ntmps6
 go_wp2_with (first | (with_reducible apply wpList_allocW) | ((with_reducible apply wpList_load);(·exact rfl);(·exact ii)))
 refine (FR _ ii).mono ?_
 rintro e w2 ⟨q,T,hR⟩
 have B1:=Bt.join (W:=W) (h:=λ _=>none) ii T.new1.1 T.new1.2
 clear T FR BZ
 rcases hR with ⟨p,x,hx,rfl,rfl⟩ | ⟨V,pb,n',rfl,rfl⟩
 ·have Hx:=hx
  obtain ⟨x1,x2,x3,x4,x5,x6,x7,x8,x9,x10,rfl⟩:=hx
  dsimp only
  go_wp2_with ((with_reducible apply wpList_store);(·exact rfl);(·exact rfl);(·exact ii))
  (first | (with_reducible refine pl2 (.q [0,2] (.f [1] (.x [3,4] (.q [5] .d)))) ?_) | refine pl1 (.q [0,2] (.f [1] (.x [3,4] (.q [5] .d)))) ?_);simp only [Plan.run,pick,gZ,gS,gA,gN]
  (repeat (first | ((with_reducible apply wpQuiet_load);(·exact rfl);(·rintro _ ⟨gq,rfl⟩;exact ii);go_frame) | go_big_quiet_step (exact qZ)));refine nZ ?_
  (with_reducible apply wpQuiet_buildW)
  go_frame
  (repeat go_big_quiet_step (exact qZ));refine nZ ?_
  refine btI ?_
  intro w3 B2
  clear B1
  go_wp2_with ((with_reducible apply wpList_store);(·exact rfl);(·exact rfl);(·exact ii))
  dsimp only [Nx]
  (try go_frame)
  (repeat go_big_quiet_step (exact qZ));refine nZ ?_
  refine btI ?_
  intro w4 B3
  clear B2
  go_wp2_with fail
  (refine bodyPost_ret (results_tccts (z:=4) (z2:=66) rfl _ _ _ _ _ _ rfl rfl ii ii Tryz.underlying31 rfl (by kernel_rfl) Tryz.underlying39 rfl (by kernel_rfl)) rfl ?_)
  exact lai_no B3 Hx
 ·have CH:TqA (ActsIn ad n cap L) 9 #[pV pb,.agg Tryz.zeroCells39,.slice ad n cap] (star [PoS V pb 1 n' (1000000000 - 70010) (λ _ _=>False) noW,SlP 3 1 none 0 0 [],SlP 35 64 none 0 0 []]) (ChgR V pb 1 n' (1000000000 - 70010 - 2000000) λ _ _=>False):=by
   have e:Tryz.zeroCells39=wl0:=by kernel_rfl
   rw [e]
   exact lchg_tq (wd:=noW) (by omega) (by omega) ad n cap L hn noW_ok none none 0 0
  have A0:ActsIn ad n cap L W (λ _=>none):=⟨A,λ _ _ _=>rfl⟩
  have SY:=λ (root:Nd) (wd:Wd)=>sync_tq (V:=V) (pb:=pb) (txg:=1) (root:=root) (C:=1000000000 - 70010 - 2000000) (wd:=wd) (by omega) (by omega)
  dsimp only
  go_wp2_with ((with_reducible apply wpList_store);(·exact rfl);(·exact rfl);(·exact ii))
  refine calls_bt (W:=W) (h:=λ _=>none) (l:=[BlkP w2.heap.size V.cs 31,PoS V pb 1 n' (1000000000 - 70010) (λ _ _=>False) noW,BlkP (W.heap.size+1+1) wl0 39,BlkP (W.heap.size+1) #[.slice none 0 0,.int .i64 0,.slice none 0 0,.slice none 0 0] 31,BlkP W.heap.size #[.slice s.ad s.len s.cap,.int .i64 secs] 24]) ii ?_
  intro w3 B3
  have B4:Bt W (λ _=>none) [_,_,_,_,_,SlP 3 1 none 0 0 [],SlP 35 64 none 0 0 []] w3:=(B3.more (SlP.nil 3 1 _)).more (SlP.nil 35 64 _)
  have B5:=Bt.oS (B4) [1,5,6,0,2,3,4]
  have B6:=B5.app [_,_,_]
  clear B1 B3 B4 B5
  refine (Bt.callA CH A0 (B:=B6)).mono ?_
  rintro e w4 ⟨v,q,rfl,hR,B7⟩
  clear B6 CH A0
  rcases hR with ⟨H,X,a1,n1,c1,a2,n2,c2,rfl,rfl⟩ | ⟨wd,ia,icap,sa,scap,o,rfl,rfl⟩
  ·dsimp only
   go_wp2_with (first | (with_reducible apply wpList_allocW) | ((with_reducible apply wpList_store);(·exact rfl);(·exact rfl);(·exact ii)))
   refine wp_world (W:=W) (h:=λ _=>none) (l:=[BlkP w4.heap.size (wlC H X (.slice a1 n1 c1) (.slice a2 n2 c2)) 39,star [],BlkP w2.heap.size V.cs 31,BlkP (W.heap.size+1+1) wl0 39,BlkP (W.heap.size+1) #[.slice none 0 0,.int .i64 0,.slice none 0 0,.slice none 0 0] 31,BlkP W.heap.size #[.slice s.ad s.len s.cap,.int .i64 secs] 24]) ii ?_
   intro w5 C0
   have C1:=Bt.oS (C0) [2,0,1,3,4,5]
   obtain ⟨HL,hHL⟩:∃ HL:List SP,HL=[BlkP w2.heap.size V.cs 31,BlkP w4.heap.size (wlC H X (.slice a1 n1 c1) (.slice a2 n2 c2)) 39]:=⟨_,rfl⟩
   have i1:∀ x:WIn (star HL),CellsIn x.w w2.heap.size V.cs:=λ x=>cells_star x.h (k:=0) (by rw [hHL];rfl)
   have i2:∀ x:WIn (star HL),CellsIn x.w w4.heap.size (wlC H X (.slice a1 n1 c1) (.slice a2 n2 c2)):=λ x=>cells_star x.h (k:=1) (by rw [hHL];rfl)
   have HHL:=Lib.hid hHL
   have in0:In (star HL) w5:=by rw [hHL];exact in_two C1
   clear hHL B7 C0
   have GH:=gc_hin (star HL)
   haveI:Nonempty (WIn (star HL)):=⟨⟨w5,in0⟩⟩
   refine wp_region_planD (HIn (star HL)) [6,10] (.q [3,4,5] (.f [0,1,2] (.x [6] (.q [9] (.c 7 (.c 8 (.x [10] (.x [11] (.q [12] .d))))))))) GH (HIn.of in0) (by kernel_rfl) (by kernel_rfl) ?_
   simp only [Plan.runC,pick,List.getElem?_cons_zero,List.getElem?_cons_succ,List.cons_append,List.nil_append]
   (repeat (first | ((with_reducible apply wpQuiet_load);(·exact rfl);(·rintro _ ⟨gq,rfl⟩;exact ii);go_frame) | go_big_quiet_step (exact qZ)));refine nZ ?_
   (repeat (first | ((with_reducible apply wpQuiet_load);(·exact rfl);(·rintro _ ⟨gq,rfl⟩;exact ii);go_frame) | go_big_quiet_step (exact qZ)));refine nZ ?_
   refine btI ?_
   intro w6 C2
   clear C1 in0
   go_wp2_with fail
   dsimp only [Nx]
   refine ⟨_,⟨gc_hin _,λ v hv=>hv⟩,λ _=>HIn.of (by rw [HHL.out];exact in_two C2),?_⟩
   (try go_frame)
   (repeat go_big_quiet_step (exact qZ));refine nZ ?_
   (repeat (first | ((with_reducible apply wpQuiet_load);(·exact rfl);(·rintro _ ⟨gq,rfl⟩;exact ii);go_frame) | go_big_quiet_step (exact qZ)));refine nZ ?_
   (repeat (first | ((with_reducible apply wpQuiet_load);(·exact rfl);(·rintro _ ⟨gq,rfl⟩;exact ii);go_frame) | go_big_quiet_step (exact qZ)));refine nZ ?_
   rintro w8 hw8
   have D1:Bt W (λ _=>none) _ w8:=C2.cls hw8
   clear hw8 C2
   go_wp2_with ((with_reducible apply wpList_store);(·exact rfl);(·exact rfl);(·exact ii))
   dsimp only [Nx]
   refine ⟨_,⟨gc_hin _,λ v hv=>hv⟩,λ _=>HIn.of (by rw [HHL.out];exact in_two ii),?_⟩
   refine btI ?_
   intro w9 D2
   clear D1
   go_wp2_with ((with_reducible apply wpList_store);(·exact rfl);(·exact rfl);(·exact ii))
   dsimp only [Nx]
   refine ⟨_,⟨gc_hin _,λ v hv=>hv⟩,λ h=>absurd h (by decide),?_⟩
   (try go_frame)
   (repeat go_big_quiet_step (exact qZ));refine nZ ?_
   refine btI ?_
   intro w10 D3
   clear D2
   go_wp2_with fail
   (refine bodyPost_ret (results_tccts (z:=4) (z2:=66) rfl _ _ _ _ _ _ rfl rfl ii ii Tryz.underlying31 rfl (by kernel_rfl) Tryz.underlying39 rfl (by kernel_rfl)) rfl ?_)
   exact lai_no D3 V.isDv
  ·dsimp only
   unfold wlW
   replace B7:=B7.flat
   simp only [slW,List.cons_append,List.nil_append] at B7
   go_wp2_with (first | (with_reducible apply wpList_allocW) | ((with_reducible apply wpList_store);(·exact rfl);(·exact rfl);(·exact ii)))
   refine wp_world (W:=W) (h:=λ _=>none) (l:=[BlkP w4.heap.size (wlC (hasO wd.live) (txtO wd.live) (.slice ia wd.snaps.length icap) (.slice sa wd.snaps.length scap)) 39,PoS V pb 1 n' (1000000000 - 70010 - 2000000) (λ _ _=>False) wd,SlP 3 1 ia wd.snaps.length icap (idC wd.snaps),SlP 35 64 sa wd.snaps.length scap (ssC wd.snaps),BlkP w2.heap.size V.cs 31,BlkP (W.heap.size+1+1) wl0 39,BlkP (W.heap.size+1) #[.slice none 0 0,.int .i64 0,.slice none 0 0,.slice none 0 0] 31,BlkP W.heap.size #[.slice s.ad s.len s.cap,.int .i64 secs] 24]) ii ?_
   intro w5 C0
   have C1:=Bt.oS (C0) [4,0,1,2,3,5,6,7]
   obtain ⟨HL,hHL⟩:∃ HL:List SP,HL=[BlkP w2.heap.size V.cs 31,BlkP w4.heap.size (wlC (hasO wd.live) (txtO wd.live) (.slice ia wd.snaps.length icap) (.slice sa wd.snaps.length scap)) 39]:=⟨_,rfl⟩
   have i1:∀ x:WIn (star HL),CellsIn x.w w2.heap.size V.cs:=λ x=>cells_star x.h (k:=0) (by rw [hHL];rfl)
   have i2:∀ x:WIn (star HL),CellsIn x.w w4.heap.size (wlC (hasO wd.live) (txtO wd.live) (.slice ia wd.snaps.length icap) (.slice sa wd.snaps.length scap)):=λ x=>cells_star x.h (k:=1) (by rw [hHL];rfl)
   have HHL:=Lib.hid hHL
   have in0:In (star HL) w5:=by rw [hHL];exact in_two C1
   clear hHL B7 C0
   have GH:=gc_hin (star HL)
   haveI:Nonempty (WIn (star HL)):=⟨⟨w5,in0⟩⟩
   refine wp_region_planD (HIn (star HL)) [6,10] (.q [3,4,5] (.f [0,1,2] (.x [6] (.q [9] (.c 7 (.c 8 (.x [10] (.x [11] (.q [12] .d))))))))) GH (HIn.of in0) (by kernel_rfl) (by kernel_rfl) ?_
   simp only [Plan.runC,pick,List.getElem?_cons_zero,List.getElem?_cons_succ,List.cons_append,List.nil_append]
   (repeat (first | ((with_reducible apply wpQuiet_load);(·exact rfl);(·rintro _ ⟨gq,rfl⟩;exact ii);go_frame) | go_big_quiet_step (exact qZ)));refine nZ ?_
   (repeat (first | ((with_reducible apply wpQuiet_load);(·exact rfl);(·rintro _ ⟨gq,rfl⟩;exact ii);go_frame) | go_big_quiet_step (exact qZ)));refine nZ ?_
   refine btI ?_
   intro w6 C2
   clear C1 in0
   go_wp2_with fail
   refine (Bt.call (SY n' wd)).mono ?_
   rintro e w7 ⟨v,q,rfl,hR,C3⟩
   clear C2 SY
   dsimp only
   rcases hR with ⟨er,he,rfl,rfl⟩ | ⟨n2,rfl,rfl⟩
   ·have hne:(er == 0)=false:=by simp [he]
    clear he
    go_wp2_with fail
    dsimp only [Nx]
    refine ⟨_,⟨gc_hin _,λ v hv=>hv⟩,λ _=>HIn.of (by rw [HHL.out];exact in_two C3),?_⟩
    (try go_frame)
    (repeat go_big_quiet_step (exact qZ));refine nZ ?_
    (repeat (first | ((with_reducible apply wpQuiet_load);(·exact rfl);(·rintro _ ⟨gq,rfl⟩;exact ii);go_frame) | go_big_quiet_step (exact qZ)));refine nZ ?_
    (repeat (first | ((with_reducible apply wpQuiet_load);(·exact rfl);(·rintro _ ⟨gq,rfl⟩;exact ii);go_frame) | go_big_quiet_step (exact qZ)));refine nZ ?_
    rintro w8 hw8
    have D1:Bt W (λ _=>none) _ w8:=C3.cls hw8
    clear hw8 C3
    go_wp2_with ((with_reducible apply wpList_store);(·exact rfl);(·exact rfl);(·exact ii))
    dsimp only [Nx]
    refine ⟨_,⟨gc_hin _,λ v hv=>hv⟩,λ _=>HIn.of (by rw [HHL.out];exact in_two ii),?_⟩
    refine btI ?_
    intro w9 D2
    clear D1
    go_wp2_with ((with_reducible apply wpList_store);(·exact rfl);(·exact rfl);(·exact ii))
    dsimp only [Nx]
    refine ⟨_,⟨gc_hin _,λ v hv=>hv⟩,λ h=>absurd h (by decide),?_⟩
    (try go_frame)
    (repeat go_big_quiet_step (exact qZ));refine nZ ?_
    refine btI ?_
    intro w10 D3
    clear D2
    go_wp2_with fail
    (refine bodyPost_ret (results_tccts (z:=4) (z2:=66) rfl _ _ _ _ _ _ rfl rfl ii ii Tryz.underlying31 rfl (by kernel_rfl) Tryz.underlying39 rfl (by kernel_rfl)) rfl ?_)
    exact lai_no D3 V.isDv
   ·go_wp2_with fail
    dsimp only [Nx]
    refine ⟨_,⟨gc_hin _,λ v hv=>hv⟩,λ _=>HIn.of (by rw [HHL.out];exact in_two C3),?_⟩
    (try go_frame)
    (repeat go_big_quiet_step (exact qZ));refine nZ ?_
    (repeat (first | ((with_reducible apply wpQuiet_load);(·exact rfl);(·rintro _ ⟨gq,rfl⟩;exact ii);go_frame) | go_big_quiet_step (exact qZ)));refine nZ ?_
    (repeat (first | ((with_reducible apply wpQuiet_load);(·exact rfl);(·rintro _ ⟨gq,rfl⟩;exact ii);go_frame) | go_big_quiet_step (exact qZ)));refine nZ ?_
    rintro w8 hw8
    have D1:Bt W (λ _=>none) _ w8:=C3.cls hw8
    clear hw8 C3
    go_wp2_with ((with_reducible apply wpList_store);(·exact rfl);(·exact rfl);(·exact ii))
    dsimp only [Nx]
    refine ⟨_,⟨gc_hin _,λ v hv=>hv⟩,λ _=>HIn.of (by rw [HHL.out];exact in_two ii),?_⟩
    refine btI ?_
    intro w9 D2
    clear D1
    go_wp2_with ((with_reducible apply wpList_store);(·exact rfl);(·exact rfl);(·exact ii))
    dsimp only [Nx]
    refine ⟨_,⟨gc_hin _,λ v hv=>hv⟩,λ h=>absurd h (by decide),?_⟩
    (try go_frame)
    (repeat go_big_quiet_step (exact qZ));refine nZ ?_
    refine btI ?_
    intro w10 D3
    clear D2
    go_wp2_with fail
    (refine bodyPost_ret (results_tccts (z:=4) (z2:=66) rfl _ _ _ _ _ _ rfl rfl ii ii Tryz.underlying31 rfl (by kernel_rfl) Tryz.underlying39 rfl (by kernel_rfl)) rfl ?_)
    have D4:=D3.drop.drop
    exact ⟨star (PoS V pb 2 n2 (1000000000 - 70010 - 2000000 - 70010) (λ _ _=>False) wd::slW wd ia icap sa scap),some ⟨pb,0,none⟩,V.v,_,_,_,_,_,_,_,_,true,rfl,V.isDv,(D4.app [_,_,_]).fin_at 0 rfl,.inr ⟨rfl,V,pb,n2,_,wd,ia,icap,sa,scap,rfl,o,rfl,rfl⟩⟩
end Go.Proofs.YtlfjdjndhcmliaaGreatDoor
namespace Go.Proofs.YtlfjdjndhcmliaaGreatDoor
open Go.RowKit Go.ChangeShapes Go.WideShapes Go.Joins
theorem goes_fn (W:World):Fn 5 #[] W (.bool true):=by
 refine ⟨?_⟩
 let s:Slc:=⟨some ⟨W.heap.size,0,none⟩,W.heap.size,0,1,1,λ _=>0,λ _=>1⟩
 have hg:goodG s 24:=⟨Nat.le_refl _,(by show (1:Nat)<=4;omega),by decide,by decide,λ k _=>rfl⟩
 have hm:GM s (W.alloc (.cells #[.int .i64 0,.int .i64 1] 67)):=by
  refine ⟨λ k _=>rfl,λ k _=>by simp [s],λ k hk=>?_,λ k hk=>?_⟩
  ·obtain rfl:k=0:=by simp [s] at hk;omega
   simp [s]
  ·obtain rfl:k=0:=by simp [s] at hk;omega
   simp [s]
 have c:=right_yes hg (W.alloc (.cells #[.int .i64 0,.int .i64 1] 67))
 have c':Calls Tryz.prog 13 #[.agg #[.slice (some ⟨W.heap.size,0,none⟩) 1 1,.int .i64 24]] (W.alloc (.cells #[.int .i64 0,.int .i64 1] 67)) (Ret (.bool true) (W.alloc (.cells #[.int .i64 0,.int .i64 1] 67))):=c
 have d:∀ w:World,Calls Tryz.prog 13 #[.agg #[.slice none 0 0,.int .i64 0]] w (Ret (.bool false) w):=λ w=>by
  let s0:Slc:=⟨none,0,0,0,0,λ _=>0,λ _=>0⟩
  haveI:GM s0 w:=⟨λ k hk=>absurd hk (Nat.not_lt_zero k),λ k hk=>absurd hk (Nat.not_lt_zero k),λ k hk=>absurd hk (Nat.not_lt_zero k),λ k hk=>absurd hk (Nat.not_lt_zero k)⟩
  have hn:¬ goodG s0 0:=λ h=>absurd h.1 (by show ¬ 1<=0;omega)
  exact right_no hn (by show (0:Nat)<=9223372036854775807;omega) w
 clear c hm hg
 clear s
 go_enter Tryz.func5,Tryz.ntmps5
 go_wp2_with (go_at_call 13;(first | (with_reducible refine (Calls.at c').mono ?_) | (with_reducible refine (Calls.at (d _)).mono ?_));rintro e w' ⟨rfl,g,rfl⟩)
 go_ret
 exact Ret.mk rfl grown
end Go.Proofs.YtlfjdjndhcmliaaGreatDoor
