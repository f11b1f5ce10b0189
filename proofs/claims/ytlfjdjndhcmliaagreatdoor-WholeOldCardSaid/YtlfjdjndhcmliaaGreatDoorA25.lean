/- WholeOld, part 25. -/
import Derived.Test.YtlfjdjndhcmliaaGreatDoorA24
import Derived.Test.YtlfjdjndhcmliaaGreatDoorA14
import Derived.Test.YtlfjdjndhcmliaaGreatDoorA01
set_option maxRecDepth 100000
set_option maxHeartbeats 4000000
set_option linter.all false
namespace Go.Proofs.YtlfjdjndhcmliaaGreatDoor
open Go.RowKit Go.Sort
attribute [local go_sem] Oper.semAt_some
theorem Vy{z n:Nat}{xs:List (List Value)}{W:World}{cs:Array Value}{t:TypeId}(h:xs.length=n)(hc:cs.toList=xs.flatten)(hz:∀ x∈xs,x.length=z):Zy z (some ⟨W.heap.size,0,none⟩) n n xs (W.alloc (.cells cs t)):=⟨h,λ k x hx=>by
 refine⟨W.heap.size,0,rfl,ii,λ j v hj=>?_⟩;have hj':j<z:=by have:=(List.getElem?_eq_some_iff.1 hj).1;rw [hz x (List.mem_of_getElem? hx)]at this;exact this
 rw [Qc,<- Array.getElem?_toList,hc,Nat.zero_add,QM xs z k j x hz hx hj']
 exact hj⟩
def plC(p:Pt):List (List Value):=[.int .i64 p.ag,.int .i64 p.aa]::if p.two then [[.int .i64 p.bg,.int .i64 p.ba]]else []
theorem UE(p:Pt)(h:p.isNone=false)(W:World):Calls Tryz.prog 185 #[.agg p.cs] W λ e w'=>∃ b n,e=.returned (.slice (some ⟨b,0,none⟩) n n)/\(n=if p.two then 2 else 1)/\Zy 2 (some ⟨b,0,none⟩) n n (plC p) w'/\∃ g,w'=gr W g:=by
 have HN:∀ w,Fn 169 #[.agg p.cs] w (.bool false):=λ w=>by have e:=Y4 p w;rw [h]at e;exact e
 cases h2:p.two
 ·go_in
  go_wp2_with(first|(with_reducible refine Fn.go λ g=>?_)|((with_reducible apply Za);(·exact rfl);(·exact ii)));go_ret;exact⟨_,1,rfl,rfl,Vy (by simp [plC,h2]) (by simp [plC,h2]) (by simp [plC,h2]),Zf grown⟩
 ·go_in
  go_wp2_with(first|(with_reducible refine Fn.go λ g=>?_)|((with_reducible apply Za);(·exact rfl);(·exact ii)));go_ret;exact⟨_,2,rfl,rfl,Vy (by simp [plC,h2]) (by simp [plC,h2]) (by simp [plC,h2]),Zf grown⟩
abbrev jd(W:World)(s:ZO)(secs grp at_ z:Int)(adg:Option Addr)(n capg:Nat):World :=
 (((W.alloc (.cells #[.slice s.ad s.len s.cap,.int .i64 secs] 24)).alloc (.cells #[.int .i64 grp,.int .i64 at_] 45)).alloc (.cells #[.int .i64 z] 3)).alloc (.cells #[.slice adg n capg] 101)
set_option maxRecDepth 512 in
theorem ZgJ(s:ZO)(secs grp at_ z:Int)(adg:Option Addr)(n capg:Nat)(W:World) :
  Calls Tryz.prog 343 #[.agg #[.slice s.ad s.len s.cap,.int .i64 secs],.agg #[.int .i64 grp,.int .i64 at_],.int .i64 z,.slice adg n capg] W λ e w' =>
   e=.returned (.func (.func 348) #[] #[.pointer (some ⟨W.heap.size,0,none⟩),.pointer (some ⟨W.heap.size+1,0,none⟩),.pointer (some ⟨W.heap.size+2,0,none⟩),.pointer (some ⟨W.heap.size+3,0,none⟩)])/\w'=jd W s secs grp at_ z adg n capg:=by
 go_in
 go_wp2_with fail;go_ret;exact⟨rfl,rfl⟩
theorem Zh.below{W w:World}{b N:Nat}{cs:Array Value}(c:Zh W b cs)(k:Below N W w)(h:b<N):Zh w b cs:=by
 obtain⟨t,e⟩:=c.get;exact⟨t,(k.block b h).trans e⟩
theorem Zhq(W W':World)(g g':Gr)(B:Nat)(hs:W'.heap.size=W.heap.size)(hB:B=W.heap.size):Kept B (gr W g) (gr W' (g.seq g')):=by
 subst hB;rw [<-ZW];exact Kept.trans ⟨by rw [Yl,Yl];omega,λ k hk _=>Km _ _ g k hs (by omega)⟩ (Kept.gr _ _ _)
theorem Zh.put{w:World}{b D:Nat}{cs:Array Value}(c:Zh w b cs)(o:Obj)(h:b≠D):Zh (w.putObj D o) b cs:=by
 obtain⟨t,e⟩:=c.get;exact⟨t,(World.putObj_heap_other h).trans e⟩
theorem Zae{fn:Func}{p q r:Tmp}(h:fn.results=#[.cell p 412,.cell q 4,.cell r 4])(tmps:Array Value)(w:World)(a b c:Nat)(cs:Array Value)(x y:Value)
  (hp:tmps.getD p undef=.pointer (some ⟨a,0,none⟩)) (hq:tmps.getD q undef=.pointer (some ⟨b,0,none⟩)) (hr:tmps.getD r undef=.pointer (some ⟨c,0,none⟩)) (hs:cs.size=4) (ha:Zh w a cs) (hb:Zh w b #[x]) (hc:Zh w c #[y]) :
  (results fn tmps).run Tryz.prog w=.ok (.tuple #[.agg cs,x,y]) w:=by
 have hp':tmps[p]?.getD undef=.pointer (some ⟨a,0,none⟩):=by simpa using hp
 have hq':tmps[q]?.getD undef=.pointer (some ⟨b,0,none⟩):=by simpa using hq
 have hr':tmps[r]?.getD undef=.pointer (some ⟨c,0,none⟩):=by simpa using hr
 obtain⟨t,e⟩:=ha.get;have hla:(loadVar 412 ⟨a,0,none⟩).run Tryz.prog w=.ok (.agg cs) w:=run_loadVar_row (P:=Tryz.prog) w a _ 412 cs (0,0) _ e Tryz.underlying412 rfl (by rw [hs];kernel_rfl)
 have hlb:(loadVar 4 ⟨b,0,none⟩).run Tryz.prog w=.ok x w:=by
  have:w.cell? ⟨b,0,none⟩=some x:=YO w b 0 #[x];simp [loadVar,isAgg,run_underlying Tryz.underlying4,go_sem,this]
 have hlc:(loadVar 4 ⟨c,0,none⟩).run Tryz.prog w=.ok y w:=by
  have:w.cell? ⟨c,0,none⟩=some y:=YO w c 0 #[y];simp [loadVar,isAgg,run_underlying Tryz.underlying4,go_sem,this]
 simp [results,h,hp',hq',hr',asAddr,hla,hlb,hlc,Sem.run_bind,Result.andThen]
theorem Xq{W w:World}(h:∃ g,w=gr W g):Below W.heap.size W w:=by
 obtain⟨g,rfl⟩:=h;exact Yb _ _
section
variable(V:VD)(F:Nat->Nat->ByteArray)(W:World)[D:Zn V F W]
include D in
theorem Zkz(p:Pt)(grp at_ z:Nat)(hz:p.size=z)(t:ByteArray)(ht:t.size=64*z)(hm:XG V.s V.secs grp at_ z=true)(hE:(Zz V.s grp at_ z).map (λ c=>F c.dev.toNat c.at_.toNat)=XT (Zz V.s grp at_ z) (Z6 t z))(hs:Yh t=p.sum) :
  Calls Tryz.prog 334 #[V.v,.agg p.cs,.agg #[.int .i64 grp,.int .i64 at_]] W (ZM (.tuple #[.agg #[.string t,.int .i64 0,.int .i64 (Un V.s grp (Zz V.s grp at_ z)),.int .i64 0],.bool true,.bool true]) W):=by
 have RA:∀ w,Zn V F w->_:=λ w (_:Zn V F w)=>ZcS V F w grp at_ z hm
 rw [hE]at RA;have B:=Bt.zero W;refine(callsIn_wide (n:=3)).1 ?_;refine callsIn_of_wp_marks Tryz.func334 rfl trivial ?_ rfl;simp only [Tryz.ntmps334,List.size_toArray,List.length_cons,List.length_nil,Nat.reduceAdd,Nat.reduceSub,Array.replicate_succ,Array.replicate_zero,List.push_toArray,List.append_toArray,List.nil_append,List.cons_append];refine wpIn_wide.2 ?_;go_wp2_with fail;refine(RA _ ii).mono ?_;rintro e V1 ⟨adg,rfl,o1⟩;have B1:=Ze o1.grw;have R1:=o1.rdS;haveI:Zn V F V1:=by obtain⟨g,e⟩:=o1.grw;rw [e];infer_instance
 clear o1 RA B;obtain⟨n,hn⟩:∃ n,(Zz V.s grp at_ z).length=n:=⟨_,rfl⟩
 rw [hn]at R1 ⊢;dsimp only;go_wp2_with fail;refine(ZgJ _ _ _ _ _ _ _ _ _).mono ?_;rintro e V2 ⟨rfl,rfl⟩;have B2:Bt W _ _ (jd V1 V.s V.secs grp at_ z adg n n):=ii;dsimp only;go_wp2_with fail;obtain⟨ok,_,_,_,_⟩:=Zo V F V1;haveI:Ky V.s V.secs:=⟨ok.g⟩
 haveI:=Qq V F V1;haveI:GM V.s (jd V1 V.s V.secs grp at_ z adg n n):=ii;haveI:Zy 1 adg n n (ZG (XT (Zz V.s ↑grp ↑at_ ↑z) (Z6 t z))) (jd V1 V.s V.secs grp at_ z adg n n):=ii;obtain⟨⟨g0,g1⟩,⟨z0,z1⟩,a0,a1⟩:=Xg hm;have hz':1<=z/\z<=4:=by omega
 have hg:grp<V.s.len:=by omega
 obtain⟨l1,l2⟩:=JX ok.g hg (at_:=at_) hz';have hrow:Ku (Zz V.s grp at_ z):=qo ok.g hg _ _;have hD0:Z6 t z≠[]:=λ e=>by have:=XX t z;rw [e]at this;simp at this;omega
 have hG:=kH hD0 (Kr t z ht) hrow;have hft:Zcm V.s grp z n (XT (Zz V.s grp at_ z) (Z6 t z)) (Zz V.s grp at_ z)=t:=by rw [<-hn];exact Zez ok.g hg at_ z hz' t ht
 have hL:∀ c∈Zz V.s grp at_ z,0<=c.dev:=λ c hc=>by
  obtain⟨k,hk⟩:=List.getElem?_of_mem hc;have h1:=Xl ok.g hg hz' hk;have h2:=XA ok.g grp (by omega);omega
 have hseq:=Zcf V.s V.secs grp at_ z adg n n (XT (Zz V.s grp at_ z) (Z6 t z)) (jd V1 V.s V.secs grp at_ z adg n n) hm hn (by omega) hG (by omega) (Nat.le_refl _) hL (by rw [hft];intro e;have h0:=congrArg ByteArray.size e;rw [ht]at h0;exact absurd h0 (by show 64*z≠0;omega)) hrow V1.heap.size (V1.heap.size+1) (V1.heap.size+1+1) (V1.heap.size+1+1+1) (by simp [go_sem]) (by simp [go_sem]) (by simp [go_sem]) (by simp [go_sem]) (by simp [go_sem]) (by simp [go_sem]);rw [hft]at hseq;have hb2:=Xq B2.gr_of;obtain⟨V2,hV2⟩:∃ V2,jd V1 V.s V.secs grp at_ z adg n n=V2:=⟨_,rfl⟩
 rw [hV2]at hseq hb2 B2 ⊢;refine(wpIn_wide (n:=3)).1 ?_;refine Ud (w0:=V2) rfl ?_ hseq (Below.refl _ _) rfl (λ X=>Below V2.heap.size V2 X) (λ X=>Zh X (W.heap.size+1+1+1) #[.string t,.int .i64 0,.int .i64 (Un V.s grp (Zz V.s grp at_ z)),.int .i64 0]/\Zh X (W.heap.size+1+1+1+1) #[.bool true]/\Zh X (W.heap.size+1+1+1+1+1) #[.bool true]/\Below W.heap.size W X) ?_ ?_ (Below.refl _ _) ?a1 ?hassign ?hbody ?hstop
 ·exact enters_of Tryz.func348 (by kernel_rfl) rfl
 ·exact λ A B h k=>h.trans k
 ·have hs2:=hb2.size;have o1:W.heap.size+1+1+1<V2.heap.size:=(ii:Yc (W.heap.size+1+1+1) V2).h;have o2:W.heap.size+1+1+1+1<V2.heap.size:=(ii:Yc (W.heap.size+1+1+1+1) V2).h;have o3:W.heap.size+1+1+1+1+1<V2.heap.size:=(ii:Yc (W.heap.size+1+1+1+1+1) V2).h;exact λ A B ⟨h1,h2,h3,h4⟩ k=>⟨h1.below k o1,h2.below k o2,h3.below k o3,h4.trans (k.mono hs2)⟩
 case hassign =>
  intro l m X K hK
  gi_wp2
  exact hK
 case hbody =>
  intro l m X hX;obtain⟨g,rfl⟩:=Zf hX;have B3:Bt W _ _ (gr V2 g):=ii;have hsum:∀ w,Fn 122 #[.string t] w (.agg #[.int .u64 (p.sum.a:Int),.int .u64 (p.sum.b:Int),.int .u64 (p.sum.c:Int),.int .u64 (p.sum.d:Int)]):=λ w=>⟨by have:=Qx t (by omega) w;rw [hs]at this;exact this⟩
  have heq:∀ w,(binOp .eql 48 (.agg #[.int .u64 (p.sum.a:Int),.int .u64 (p.sum.b:Int),.int .u64 (p.sum.c:Int),.int .u64 (p.sum.d:Int)]) (.agg #[.int .u64 (p.sum.a:Int),.int .u64 (p.sum.b:Int),.int .u64 (p.sum.c:Int),.int .u64 (p.sum.d:Int)])).run Tryz.prog w=.ok (.bool true) w:=λ w=>by rw [ZcE];simp
  gi_wp2
  have hmix:Tryz.prog.follows .mixedOrders=true:=by kernel_rfl
  gi_region_with_o (first|(refine⟨trivial,λ h=>(by simp [Fence.wide]at h),?_⟩;refine CallsIn.inRound l (callsIn_wide.2 ?_);with_reducible refine Fn.go λ g=>?_))
  all_goals gi_wp2
  all_goals exact⟨Zhq _ _ _ _ _ (by simp) rfl,ii,ii,ii,Xq (Bt.gr_of ii)⟩
 case hstop =>
  intro D X hD ⟨h1,h2,h3,h4⟩ hK;refine wpIn_wide.2 ?_;have HK:=Lib.hid hK;clear hK;go_wp2_with fail;refine⟨by simp,.inl ⟨_,_,rfl,run_takeDeferred HK.out,?_⟩⟩;have hf:=HK.out;have o1:W.heap.size+1+1+1<V2.heap.size:=(ii:Yc (W.heap.size+1+1+1) V2).h;have o2:W.heap.size+1+1+1+1<V2.heap.size:=(ii:Yc (W.heap.size+1+1+1+1) V2).h;have o3:W.heap.size+1+1+1+1+1<V2.heap.size:=(ii:Yc (W.heap.size+1+1+1+1+1) V2).h;have hs2:=hb2.size;exact⟨_,Zae rfl _ _ (W.heap.size+1+1+1) (W.heap.size+1+1+1+1) (W.heap.size+1+1+1+1+1) _ _ _ rfl rfl rfl rfl (h1.put _ (by omega)) (h2.put _ (by omega)) (h3.put _ (by omega)),ZM.mk rfl (h4.trans (Xw _ D _ _ (by omega) hf h4.size))⟩
end
end Go.Proofs.YtlfjdjndhcmliaaGreatDoor
namespace Go.Proofs.YtlfjdjndhcmliaaGreatDoor
open Go.RowKit Go.Sort
instance(a0 a1 a2 a3:Value):jb #[a0,a1,a2,a3] 4:=⟨rfl⟩
instance(a0 a1:Value):jb #[a0,a1] 2:=⟨rfl⟩
instance ZnN(cs:Array Value)(z k:Nat)(v:Value)[a:jb cs z]:jb (cs.setIfInBounds k v) z:=⟨by simp [a.h]⟩
section
variable(V:VD)(F:Nat->Nat->ByteArray)(W:World)[D:Zn V F W]
include D
theorem ZiC(p:Pt)(grp at_ z:Nat)(hp:p.size=z)(t:ByteArray)(ht:t.size=64*z)(hm:XG V.s V.secs grp at_ z=true)(hE:(Zz V.s grp at_ z).map (λ c=>F c.dev.toNat c.at_.toNat)=XT (Zz V.s grp at_ z) (Z6 t z)) :
  Fn 336 #[V.v,.agg p.cs,.agg #[.int .i64 grp,.int .i64 at_],.string t] W (.slice none 0 0):=by
 refine⟨?_⟩;obtain⟨ok,gm,ol,oa,_⟩:=Zo V F W;haveI:Ky V.s V.secs:=⟨ok.g⟩
 obtain⟨⟨g0,g1⟩,⟨z0,z1⟩,a0,a1⟩:=Xg hm;have hz:1<=z/\z<=4:=by omega
 have hg:grp<V.s.len:=by omega
 obtain⟨l1,l2⟩:=JX ok.g hg (at_:=at_) hz;have hrow:Ku (Zz V.s grp at_ z):=qo ok.g hg _ _;have RA:∀ w,Zn V F w->_:=λ w (_:Zn V F w)=>ZcS V F w grp at_ z hm
 rw [hE]at RA
 have HB:∀(adg:Option Addr)(w:World),[Zn V F w]->[Zy 1 adg (Zz V.s grp at_ z).length (Zz V.s grp at_ z).length (ZG (XT (Zz V.s grp at_ z) (Z6 t z))) w]->Fn 345 #[.agg #[.slice V.s.ad V.s.len V.s.cap,.int .i64 V.secs],.agg #[.int .i64 grp,.int .i64 at_],.string t,.slice adg (Zz V.s grp at_ z).length (Zz V.s grp at_ z).length] w (.slice none 0 0):=λ adg w _ _=>by
  haveI:=Qq V F w;exact Zk2 V.s V.secs grp at_ z adg _ w t ht hz hm l2 (by omega) hrow
 have B:=Bt.zero W
 go_in
 go_wp2_with((with_reducible apply Za);(·exact rfl);(·exact ii));refine(RA _ ii).mono ?_;rintro e V1 ⟨adg,rfl,o1⟩;have B1:=Ze o1.grw;haveI R1:=o1.rdS;haveI:Zn V F V1:=by obtain⟨g,e⟩:=o1.grw;rw [e];infer_instance
 clear o1 RA hE;obtain⟨n,hn⟩:∃ n,(Zz V.s grp at_ z).length=n:=⟨_,rfl⟩
 rw [hn]at R1 HB ⊢;have hB:=Xq B1.gr_of;dsimp only;go_wp2_with(first|(with_reducible refine Fn.go λ g=>?_)|((with_reducible apply Za);(·exact rfl);(·exact ii)));go_ret;exact ZM.mk rfl (Xq (Bt.gr_of ii))
theorem Zfo(p:Pt)(hn:p.isNone=false)(grp at_ z:Nat)(hg:p.ag=grp)(ha:p.aa=at_)(hp:p.size=z)(t:ByteArray)(ht:t.size=64*z)(hm:XG V.s V.secs grp at_ z=true)(hE:(Zz V.s grp at_ z).map (λ c=>F c.dev.toNat c.at_.toNat)=XT (Zz V.s grp at_ z) (Z6 t z)) :
  Fn 329 #[V.v,.agg p.cs,.string t,.int .i64 1] W (.int .i64 0):=by
 refine⟨?_⟩;have PA:=λ w=>UE p hn w
 simp only [plC,hg,ha]at PA;have HB:∀ w,[Zn V F w]->Fn 336 #[V.v,.agg p.cs,.agg #[.int .i64 grp,.int .i64 at_],.string t] w (.slice none 0 0):=λ w _=>ZiC V F w p grp at_ z hp t ht hm hE
 have HM:∀ w,[Zn V F w]->Fn 335 #[V.v,.agg #[.int .i64 grp,.int .i64 at_],.string t,.slice none 0 0] w (.int .i64 0):=λ w _=>ZiI V F w grp at_ z t ht hm
 have B:=Bt.zero W;clear hE hg ha hp hm
 go_in
 go_wp2_with((with_reducible apply Za);(·exact rfl);(·exact ii));refine(PA _).mono ?_;rintro e V1 ⟨b,n,rfl,hnn,R1,hg⟩;have B1:=Ze hg;haveI:Zn V F V1:=by obtain⟨g,e⟩:=hg;rw [e];infer_instance
 have h1n:1<=n:=by rw [hnn];split<;>omega
 obtain⟨b',o',e',hb,hcl⟩:=R1.cells 0 _ rfl;cases e';have v0:=hcl 0 _ rfl;have v1:=hcl 1 _ rfl;clear hnn R1 hcl PA hg;dsimp only;go_wp2_with fail
 go_loopw [9,17] (λ m i wr=>m=.int .i64 0/\(i=.int .i64 0\/i=.int .i64 1)/\∃ g,wr=gr V1 g)
  (λ _ i _=>2-(intOf i).toNat)
 case atStart=>exact⟨rfl,.inl rfl,Y1 V1⟩
 case round =>
  obtain⟨rfl,rfl|rfl,hg⟩:=hrel
  ·have B2:=B1.cls hg;haveI:Zn V F wr:=by obtain⟨g,e⟩:=hg;rw [e];infer_instance
   have v0:wr.cell? ⟨b,0,none⟩=some (.int .i64 grp):=by obtain⟨g,e⟩:=hg;rw [e,Z7];exact v0
   have v1:wr.cell? ⟨b,1,none⟩=some (.int .i64 at_):=by obtain⟨g,e⟩:=hg;rw [e,Z7];exact v1
   haveI:Yc b wr:=by obtain⟨g,e⟩:=hg;rw [e];infer_instance
   go_wp2_with fail;refine plZ (.q [0,1,2,3,4,5,6,7,8,9,10,11] .d) ?_;simp only [Zk.run,pick,gZ,gS,gA,gN]
   (repeat(first|((with_reducible apply Zc);(·exact rfl);(·rintro _ ⟨gq,rfl⟩;exact ii);go_frame)|go_big_quiet_step (exact qZ)));refine nZ ?_
   rintro w2 hw2;have hg2:∃ g,w2=gr V1 g:=by obtain⟨g,rfl⟩:=hg;obtain⟨g2,rfl⟩:=hw2;exact⟨_,by rw [ZK,ZW]⟩
   clear hw2;go_wp2_with fail;exact⟨⟨rfl,.inr rfl,hg2⟩,by simp [intOf]⟩
  ·go_wp2_with fail;go_ret;exact ZM.mk rfl (Xq (Bt.gr_of (B1.cls hg)))
omit D in
theorem Zfq{s:ZO}{F:Nat->Nat->ByteArray}{g a z:Nat}{t:ByteArray}(h:Uf s F g a z t):(Zz s g a z).map (λ c=>F c.dev.toNat c.at_.toNat)=XT (Zz s g a z) (Z6 t z):=by
 refine List.ext_getElem? λ k=>?_
 rcases Nat.lt_or_ge k (Zz s g a z).length with hk|hk
 ·obtain⟨c,hc⟩:∃ c,(Zz s g a z)[k]?=some c:=⟨_,List.getElem?_eq_getElem hk⟩
  obtain⟨e,he⟩:∃ e,(XT (Zz s g a z) (Z6 t z))[k]?=some e:=⟨_,List.getElem?_eq_getElem (by rw [zM];exact hk)⟩
  rw [List.getElem?_map,hc,he,Option.map_some,h k c e hc he]
 ·rw [List.getElem?_eq_none (by simpa using hk),List.getElem?_eq_none (by rw [zM];exact hk)]
structure Zke(V:VD)(F:Nat->Nat->ByteArray)(p:Pt)(t:ByteArray)(g a z:Nat):Prop where
 hn:p.isNone=false
 hg:p.ag=g
 ha:p.aa=a
 hz:p.size=z
 ok:J9 V.s V.secs p
 ht:t.size=64*z
 m:XG V.s V.secs g a z=true
 e:(Zz V.s g a z).map (λ c=>F c.dev.toNat c.at_.toNat)=XT (Zz V.s g a z) (Z6 t z)
 s:Yh t=p.sum
omit D in
theorem Held.at_n{V:VD}{F:Nat->Nat->ByteArray}{p:Pt}{t:ByteArray}(ok:V.Ok)(h:Held V.s V.secs F p t):∃ g a z,Zke V F p t g a z:=by
 obtain⟨g,a,z,e1,e2,e3,h1,h2,h3⟩:=h.ok.in_ ok.g;have ha:=h.at_;have hs:=h.size;rw [e1,e2,e3,Int.toNat_natCast,Int.toNat_natCast,Int.toNat_natCast]at ha;rw [e3,Int.toNat_natCast]at hs;refine⟨g,a,z,?_,e1,e2,e3,h.ok,hs,h3,Zfq ha,h.sum⟩;cases hn:p.isNone
 ·rfl
 ·have:=(J5 p Pt.none).1 hn;have h0:=h.ok.bt.1;rw [this]at h0;exact absurd h0 (by decide)
theorem Zik(p:Pt)(t:ByteArray)(grp at_ z:Nat)(H:Zke V F p t grp at_ z) :
  Fn 328 #[V.v,.agg p.cs] W (.tuple #[.agg #[.string t,.int .i64 0,.int .i64 (Un V.s grp (Zz V.s grp at_ z)),.int .i64 0],.int .i64 0]):=by
 refine⟨?_⟩;obtain⟨hn,hg,ha,hz,hok,ht,hm,hE,hs⟩:=H;have PA:=λ w=>UE p hn w
 simp only [plC,hg,ha]at PA;have HA:∀ w,[Zn V F w]->Fn 334 #[V.v,.agg p.cs,.agg #[.int .i64 grp,.int .i64 at_]] w (.tuple #[.agg #[.string t,.int .i64 0,.int .i64 (Un V.s grp (Zz V.s grp at_ z)),.int .i64 0],.bool true,.bool true]):=λ w _=>⟨Zkz V F w p grp at_ z hz t ht hm hE hs⟩
 have HV:∀ w,[Zn V F w]->Fn 69 #[V.v] w (.bool true):=λ w _=>YZ V F w
 have HP:∀ w,[Zn V F w]->Fn 184 #[.agg #[.slice V.s.ad V.s.len V.s.cap,.int .i64 V.secs],.agg p.cs] w (.bool true):=λ w _=>by
  haveI:=Ue V F w;haveI:=Qq V F w;exact je V.s V.secs w p hok
 generalize Un V.s grp (Zz V.s grp at_ z)=dv at HA ⊢;have B:=Bt.zero W;clear hE hg ha hm hs ht hok hz
 go_in
 go_wp2_with(first|(with_reducible refine Fn.go λ g=>?_)|((with_reducible apply Za);(·exact rfl);(·exact ii))|((with_reducible apply Z2);(·exact rfl);(·exact rfl);(·exact ii)));refine(PA _).mono ?_;rintro e V1 ⟨b,n,rfl,hnn,R1,hg⟩;have B1:=Ze hg;haveI:Zn V F V1:=by obtain⟨g,e⟩:=hg;rw [e];infer_instance
 have h1n:1<=n:=by rw [hnn];split<;>omega
 obtain⟨b',o',e',hb,hcl⟩:=R1.cells 0 _ rfl;cases e';have v0:=hcl 0 _ rfl;have v1:=hcl 1 _ rfl;clear hnn R1 hcl PA hg B;dsimp only;go_wp2_with fail
 go_loopw [6,26] (λ m i wr=>m=.bool true/\i=.int .i64 0/\wr=V1)
  (λ _ _ _=>0)
 case atStart=>exact⟨rfl,rfl,rfl⟩
 case round =>
  obtain⟨rfl,rfl,rfl⟩:=hrel;go_wp2_with(first|(with_reducible refine Fn.go λ g=>?_)|((with_reducible apply Za);(·exact rfl);(·exact ii)))
  (refine bodyPost_ret (Zt (z:=4) rfl _ _ _ _ rfl inferInstance Tryz.underlying412 rfl (by kernel_rfl)) rfl ?_)
  exact ZM.mk rfl (Xq (Bt.gr_of ii))
end
theorem ZgX{V:VD}{F:Nat->Nat->ByteArray}(ok:V.Ok){p:Pt}{t:ByteArray}(H:Held V.s V.secs F p t):∃ dv:Int,∀ W,[Zn V F W] ->
  Fn 321 #[V.v,.agg p.cs] W (.tuple #[.agg #[.string t,.int .i64 0,.int .i64 dv,.int .i64 0],.int .i64 0]):=by
 obtain⟨grp,at_,z,HN⟩:=H.at_n ok;refine⟨Un V.s grp (Zz V.s grp at_ z),λ W D=>⟨?_⟩⟩;have HL:=λ w (_:Zn V F w)=>Zik V F w p t grp at_ z HN
 have HM:∀ w,[Zn V F w]->Fn 329 #[V.v,.agg p.cs,.string t,.int .i64 1] w (.int .i64 0):=λ w _=>Zfo V F w p HN.hn grp at_ z HN.hg HN.ha HN.hz t HN.ht HN.m HN.e
 generalize Un V.s grp (Zz V.s grp at_ z)=dv at HL ⊢;have HL':∀ w,[Zn V F w]->Fn 328 #[V.v,.agg p.cs] w (.tuple #[.agg #[.string t,.int .i64 0,.int .i64 dv,.int .i64 0],.int .i64 0]):=HL;have B:=Bt.zero W;clear HL HN H
 go_in
 go_wp2_with(first|(with_reducible refine Fn.go λ g=>?_)|((with_reducible apply Za);(·exact rfl);(·exact ii)))
 (refine bodyPost_ret (Zt (z:=4) rfl _ _ _ _ rfl inferInstance Tryz.underlying412 rfl (by kernel_rfl)) rfl ?_)
 exact ZM.mk rfl (Xq (Bt.gr_of ii))
abbrev MD:=Nat × Nat × List Run
def YX(ms:List MD)(g u:Nat):Prop:=∃ m,ms[g]?=some m/\Vl m.2.2 u
def XD(ms:List MD)(i at_ n:Nat):List MD:=match ms[i]? with
 |some m=>ms.set i (m.1,m.2.1,QK (yP m.2.2 at_ n))
 |none=>ms
theorem zB(ms:List MD)(i at_ n:Nat):(XD ms i at_ n).length=ms.length:=by
 unfold XD;split<;>simp
def kJ(l:List Run)(z n from_:Nat):Option Nat:=match Up n z l from_ with
 |some a=>some a
 |none=>Up n z l 0
theorem kC{n z:Nat}{l:List Run}{from_ a:Nat}(h:Y3 z l)(e:kJ l z n from_=some a):a+n<=z/\(∀ r∈l,r.1+r.2<=a\/a+n<=r.1):=by
 unfold kJ at e;split at e
 ·rename_i e2;cases e;exact(ZdV h e2).2
 ·exact(ZdV h e).2
theorem ZcF{n z:Nat}{l:List Run}{from_ a:Nat}(h:Y3 z l)(e:kJ l z n from_=some a)(u:Nat)(h1:a<=u)(h2:u<a+n):¬Vl l u:=by
 rintro⟨r,hr,h3,h4⟩;rcases(kC h e).2 r hr with h5|h5<;>omega
theorem UU{ms:List MD}{i at_ n:Nat}{m:MD}(hm:ms[i]?=some m)(h:Y3 m.2.1 m.2.2)(hn:0<n)(hz:at_+n<=m.2.1)(hf:∀ r,m.2.2[Z3 m.2.2 at_]?=some r->at_+n<=r.1)(g u:Nat) :
  YX (XD ms i at_ n) g u↔YX ms g u\/(g=i/\at_<=u/\u<at_+n):=by
 obtain⟨p1,p2,_⟩:=Zc4 h hn hz hf;obtain⟨q1,q2,_⟩:=ZaB p1;have hi:i<ms.length:=(List.getElem?_eq_some_iff.1 hm).1;unfold YX XD;simp only [hm]
 by_cases e:g=i
 ·subst e;rw [List.getElem?_set_self hi,hm];constructor
  ·rintro⟨m',e,hu⟩;cases e;rcases(p2 u).1 ((q2 u).1 hu)with h1|h1
   ·exact .inl ⟨m,rfl,h1⟩
   ·exact .inr ⟨rfl,h1⟩
  ·rintro(⟨m',e,hu⟩|⟨_,h1⟩)
   ·cases e;exact⟨_,rfl,(q2 u).2 ((p2 u).2 (.inl hu))⟩
   ·exact⟨_,rfl,(q2 u).2 ((p2 u).2 (.inr h1))⟩
 ·rw [List.getElem?_set_ne (Ne.symm e)];constructor
  ·exact .inl
  ·rintro(h|⟨h,_⟩)
   ·exact h
   ·exact absurd h e
def XJ(ms:List MD):List SP:=ms.map λ m=>KC m.1 m.2.1 m.2.2
def QC(ms:List MD):List (List Value):=ms.map λ m=>[.pointer (some ⟨m.1,0,none⟩)]
def Y0(l:List Nat):List (List Value):=l.map λ(n:Nat)=>[.int .i64 (n:Int)]
theorem Zba(l:List Nat):(Y0 l).length=l.length:=by simp [Y0]
theorem ZbM(l:List Nat):∀ x∈Y0 l,x.length=1:=by
 intro x hx;obtain⟨_,_,rfl⟩:=List.mem_map.1 hx;rfl
theorem Zhw(l:List Nat):∀ x∈Y0 l,∀ v∈x,v.oneCell'=true:=by
 intro x hx v hv;obtain⟨r,_,rfl⟩:=List.mem_map.1 hx;rw [List.mem_singleton.1 hv];rfl
theorem J7{ms:List MD}{i:Nat}{m:MD}(h:ms[i]?=some m):(XJ ms)[i]?=some (KC m.1 m.2.1 m.2.2):=by simp [XJ,h]
structure zS(s:ZO)(secs:Int)(ms:List MD)(es:List Nat):Prop where
 good:ZT s secs
 len:ms.length=s.len
 elen:es.length=s.len
 size:∀(g:Nat)(m:MD),ms[g]?=some m->(m.2.1:Int)=Q8 s secs g
 ends:∀(g e:Nat)(m:MD),es[g]?=some e->ms[g]?=some m->e<=m.2.1
def ZV(bb:Nat)(s:ZO)(secs:Int)(ms:List MD)(es:List Nat):SP:=λ h=>zS s secs ms es/\∃ mad mcap ead ecap,star [Zd bb #[.slice s.ad s.len s.cap,.int .i64 secs,.slice mad ms.length mcap,.slice ead es.length ecap] 136,Zw 138 1 mad ms.length mcap (QC ms),Zw 3 1 ead es.length ecap (Y0 es),star (XJ ms)] h
class YK(bb:Nat)(s:outParam ZO)(secs:outParam Int)(ms:outParam (List MD))(es:outParam (List Nat))(w:World):Prop where
 i:In (ZV bb s secs ms es) w
instance Zki(bb:Nat)(s:ZO)(secs:Int)(ms:List MD)(es:List Nat)(W:World)(o:Obj)[k:YK bb s secs ms es W]:YK bb s secs ms es (W.alloc o):=by have:=k.i;exact⟨ii⟩
instance ZmE(bb:Nat)(s:ZO)(secs:Int)(ms:List MD)(es:List Nat)(W:World)(g:Gr)[k:YK bb s secs ms es W]:YK bb s secs ms es (gr W g):=by have:=k.i;exact⟨ii⟩
def JN(ms:List MD)(k:Nat):Int:=((ms.take k).map λ m=>(m.2.1:Int)-jO m.2.2 m.2.2.length).sum
theorem jH{ms:List MD}{k:Nat}{m:MD}(h:ms[k]?=some m):JN ms (k+1)=JN ms k+((m.2.1:Int)-jO m.2.2 m.2.2.length):=by
 unfold JN;rw [List.take_add_one,h];simp
section
variable(bb:Nat)(s:ZO)(secs:Int)(ms:List MD)(es:List Nat)(W:World)[D:YK bb s secs ms es W]
theorem book_facts:zS s secs ms es/\Yc bb W/\(∀(i:Nat)(m:MD),ms[i]?=some m->YD m.1 m.2.1 m.2.2 W)/\∃ mad mcap ead ecap,W.cell? ⟨bb,0,none⟩=some (.slice s.ad s.len s.cap)/\W.cell? ⟨bb,1,none⟩=some (.int .i64 secs)/\W.cell? ⟨bb,2,none⟩=some (.slice mad ms.length mcap)/\W.cell? ⟨bb,3,none⟩=some (.slice ead es.length ecap)/\Zy 1 mad ms.length mcap (QC ms) W/\Zy 1 ead es.length ecap (Y0 es) W/\(ead=none->ecap=0):=by
 obtain⟨h,⟨ok,mad,mcap,ead,ecap,st⟩,hw⟩:=D.i.ex;obtain⟨h1,p1,s1⟩:=st.get (i:=0) rfl;obtain⟨h2,p2,s2⟩:=st.get (i:=1) rfl;obtain⟨h3,p3,s3⟩:=st.get (i:=2) rfl;obtain⟨h4,p4,s4⟩:=st.get (i:=3) rfl;haveI:=hw.sub s1;haveI:=hw.sub s2;haveI:=hw.sub s3;haveI i4:=hw.sub s4;refine⟨ok,Has.old p1,λ i m hm=>?_,mad,mcap,ead,ecap,Has.cell p1,Has.cell p1,Has.cell p1,Has.cell p1,p2.rd W,p3.rd W,λ e=>?_⟩
 ·obtain⟨h5,p5,s5⟩:=star.get p4 (J7 hm);exact⟨⟨h5,p5,i4.sub s5⟩⟩
 ·rcases p3.2.2 with ⟨_,_,h⟩|⟨g,e2,_⟩
  ·exact h
  ·rw [e]at e2;cases e2
theorem U0(ok:zS s secs ms es)(hm:∀(i:Nat)(m:MD),ms[i]?=some m->YD m.1 m.2.1 m.2.2 W):∀ k,k<=ms.length->-(4294967296*(k:Int))<=JN ms k/\JN ms k<=65536*k
 |0,_=>by simp [JN]
 |k+1,hk=>by
  obtain⟨m,hmk⟩:∃ m,ms[k]?=some m:=⟨_,List.getElem?_eq_getElem (by omega)⟩
  have ih:=U0 ok hm k (by omega);haveI:=hm k m hmk;obtain⟨so,hz,_⟩:=YF m.1 m.2.1 m.2.2 W;have h1:=Zah so m.2.2.length (Nat.le_refl _);have h2:=JY (a:=0) so (by simp);have h3:m.2.2.length*m.2.1<=65536*65536:=Nat.mul_le_mul (by omega) (by omega);rw [jH hmk];omega
include D
theorem ZhF:Fn 294 #[.pointer (some ⟨bb,0,none⟩)] W (.int .i64 (JN ms ms.length)):=by
 refine⟨?_⟩;obtain⟨ok,ho,hm,mad,mcap,ead,ecap,c0,c1,c2,c3,R,_⟩:=book_facts bb s secs ms es W;have hbd:=U0 s secs ms es W ok hm;have hn:ms.length<=4:=by rw [ok.len];exact ok.good.2.1
 clear c0 c1 c3 ok
 go_in
 go_wp2_with fail
 go_loopw [3,13] (λ m i wr=>∃ k:Nat,k<=ms.length/\i=.int .i64 k/\m=.int .i64 (JN ms k)/\∃ g,wr=gr W g)
  (λ _ i _=>ms.length-(intOf i).toNat)
 case atStart=>exact⟨0,Nat.zero_le _,rfl,by simp [JN],Y1 W⟩
 case round =>
  obtain⟨k,hk,rfl,rfl,g,rfl⟩:=hrel
  by_cases hlt:k<ms.length
  ·obtain⟨m,hmk⟩:∃ m,ms[k]?=some m:=⟨_,List.getElem?_eq_getElem hlt⟩
   haveI:=hm k m hmk;have HL:=λ(w:World)(_:YD m.1 m.2.1 m.2.2 w)=>kF m.1 m.2.1 m.2.2 w
   have hsu:=jH hmk;have b1:=hbd k hk;have b2:=hbd (k+1) hlt;obtain⟨b,off,rfl,hb,hcl⟩:=(ii:Zy 1 mad ms.length mcap (QC ms) (gr W g)).cells k [.pointer (some ⟨m.1,0,none⟩)] (by simp [QC,hmk]);have v0:=hcl 0 _ rfl;rw [Nat.add_zero,Nat.mul_one]at v0;obtain⟨x,hx⟩:∃ x,(m.2.1:Int)-jO m.2.2 m.2.2.length=x:=⟨_,rfl⟩
   rw [hx]at hsu;rw [hsu]at b2;have HL':∀ w,[YD m.1 m.2.1 m.2.2 w]->Fn 300 #[.pointer (some ⟨m.1,0,none⟩)] w (.int .i64 x):=λ w i=>by rw [<-hx];exact HL w i
   have Hsu:=Lib.hid hsu;clear hcl hsu hmk hm hbd HL hx;go_wp2_with(with_reducible refine Fn.go λ g=>?_);exact⟨⟨k+1,hlt,by go_num,congrArg (Value.int .i64) (by rw [Hsu.out]),by first|exact⟨_,ZW ..⟩|exact⟨_,rfl⟩⟩,by simp [intOf];omega⟩
  ·obtain rfl:ms.length=k:=by omega
   go_wp2_with fail;go_ret;exact ZM.mk rfl grown
end
def orI(a b:Int):Int:=if a=0 then b else a
def ZbC(b:Bool):Int:=if b then 1 else 0
def UM(ms:List MD)(k:Nat):Int:=match ms[k]? with
 |some m=>(m.2.1:Int)-jO m.2.2 m.2.2.length
 |none=>0
def Ze8(ms:List MD)(last:Int)(x y:Nat):Int :=
 if decide ((x:Int)=last)=decide ((y:Int)=last)then orI (Lib.compareInt (UM ms y) (UM ms x)) (Lib.compareInt x y)else Lib.compareInt (ZbC (decide ((x:Int)=last))) (ZbC (decide ((y:Int)=last)))
theorem ZbY(x y:Int):(Lib.compareInt x y<0)↔x<y:=by unfold Lib.compareInt;split<;>(try split)<;>omega
theorem Zl9(x y:Int):(Lib.compareInt x y=0)↔x=y:=by unfold Lib.compareInt;split<;>(try split)<;>omega
instance Znp(x y:Int)(W:World):Fn 226 #[.int .i64 x,.int .i64 y] W (.int .i64 (Lib.compareInt x y)):=⟨(Tryz.cmp_Compare_int x y W).mono λ e w' ⟨h1,h2⟩=>by subst h1 h2;exact ZM.mk rfl (Below.refl _ _)⟩
theorem Zhh(b:Nat)(x y:Int)(W:World)[k:Zh W b #[.int .i64 x,.int .i64 y]]:Fn 225 #[.slice (some ⟨b,0,none⟩) 2 2] W (.int .i64 (orI x y)):=by
 refine⟨?_⟩;generalize hr:orI x y=r;have h1:=Lib.hid (show x=0->r=y from λ h=>by rw [<-hr,orI,if_pos h]);have h2:=Lib.hid (show x≠0->r=x from λ h=>by rw [<-hr,orI,if_neg h]);clear hr
 go_in
 go_wp2_with fail
 go_loopw [8] (λ i wr=>(i=.int .i64 0\/(i=.int .i64 1/\x=0)\/(i=.int .i64 2/\x=0/\y=0))/\wr=W)
  (λ i _=>2-(intOf i).toNat)
 case atStart=>exact⟨.inl rfl,rfl⟩
 case round =>
  obtain⟨rfl|⟨rfl,hx⟩|⟨rfl,hx,hy⟩,rfl⟩:=hrel
  ·by_cases hx:x=0
   ·have e:(x !=0)=false:=by simp [hx]
    have Hx:=Lib.hid hx;clear hx;go_wp2_with fail;exact⟨⟨.inr (.inl ⟨rfl,Hx.out⟩),trivial⟩,by simp [intOf]⟩
   ·have e:(x !=0)=true:=by simp [hx]
    have e2:=h2.out hx;subst e2;clear hx h1 h2;go_wp2_with fail;go_ret;exact ZM.mk rfl grown
  ·have e2:=h1.out hx;subst e2;have Hx:=Lib.hid hx;clear hx h1 h2
   by_cases hy:r=0
   ·have e:(r !=0)=false:=by simp [hy]
    have Hy:=Lib.hid hy;clear hy;go_wp2_with fail;exact⟨⟨.inr (.inr ⟨rfl,Hx.out,Hy.out⟩),trivial⟩,by simp [intOf]⟩
   ·have e:(r !=0)=true:=by simp [hy]
    clear hy;go_wp2_with fail;go_ret;exact ZM.mk rfl grown
  ·have e2:=h1.out hx;subst e2;clear h1 h2;subst hx hy;go_wp2_with fail;go_ret;exact ZM.mk rfl grown
set_option maxRecDepth 512 in
instance Znn(b:Bool)(W:World):Fn 301 #[.bool b] W (.int .i64 (ZbC b)):=by
 refine⟨?_⟩;cases b
 ·go_in
  go_wp2_with fail;go_ret;exact ZM.mk rfl grown
 ·go_in
  go_wp2_with fail;go_ret;exact ZM.mk rfl grown
section
variable(bb:Nat)(s:ZO)(secs:Int)(ms:List MD)(es:List Nat)(W:World)[D:YK bb s secs ms es W]
include D
theorem ZeH(bc lc x y:Nat)(last:Int)(hx:x<ms.length)(hy:y<ms.length)[Yc bc W][Yc lc W](d0:W.cell? ⟨bc,0,none⟩=some (.pointer (some ⟨bb,0,none⟩)))(d1:W.cell? ⟨lc,0,none⟩=some (.int .i64 last)) :
  Calls Tryz.prog 299 #[.int .i64 x,.int .i64 y,.pointer (some ⟨bc,0,none⟩),.pointer (some ⟨lc,0,none⟩)] W (ZM (.int .i64 (Ze8 ms last x y)) W):=by
 obtain⟨ok,ho,hm,mad,mcap,ead,ecap,c0,c1,c2,c3,R,_⟩:=book_facts bb s secs ms es W;obtain⟨m,hmx⟩:∃ m,ms[x]?=some m:=⟨_,List.getElem?_eq_getElem hx⟩
 obtain⟨m2,hmy⟩:∃ m,ms[y]?=some m:=⟨_,List.getElem?_eq_getElem hy⟩
 haveI:=hm x m hmx;haveI:=hm y m2 hmy;obtain⟨a,ha⟩:∃ a,UM ms x=a:=⟨_,rfl⟩
 obtain⟨c,hc⟩:∃ c,UM ms y=c:=⟨_,rfl⟩
 have HL1:∀ w,[YD m.1 m.2.1 m.2.2 w]->Fn 300 #[.pointer (some ⟨m.1,0,none⟩)] w (.int .i64 a):=λ w i=>by rw [<-ha,UM,hmx];exact kF m.1 m.2.1 m.2.2 w
 have HL2:∀ w,[YD m2.1 m2.2.1 m2.2.2 w]->Fn 300 #[.pointer (some ⟨m2.1,0,none⟩)] w (.int .i64 c):=λ w i=>by rw [<-hc,UM,hmy];exact kF m2.1 m2.2.1 m2.2.2 w
 obtain⟨b,off,rfl,hb,hcl⟩:=R.cells x [.pointer (some ⟨m.1,0,none⟩)] (by simp [QC,hmx]);obtain⟨b2,off2,e2,hb2,hcl2⟩:=R.cells y [.pointer (some ⟨m2.1,0,none⟩)] (by simp [QC,hmy]);cases e2;have v0:=hcl 0 _ rfl;have u0:=hcl2 0 _ rfl;rw [Nat.add_zero,Nat.mul_one]at v0 u0;have hz:Ze8 ms last x y=if decide ((x:Int)=last)=decide ((y:Int)=last)then orI (Lib.compareInt c a) (Lib.compareInt x y)else Lib.compareInt (ZbC (decide ((x:Int)=last))) (ZbC (decide ((y:Int)=last))):=by unfold Ze8;rw [ha,hc]
 generalize Ze8 ms last x y=r at hz ⊢;have e1:((x:Int)==last)=decide ((x:Int)=last):=rfl;have e2:((y:Int)==last)=decide ((y:Int)=last):=rfl;generalize decide ((x:Int)=last)=px at hz e1;generalize decide ((y:Int)=last)=py at hz e2;clear ha hc hmx hmy hcl hcl2 hm R
 have HO:∀ w:World,Fn 225 #[.slice (some ⟨w.heap.size,0,none⟩) 2 2] (w.alloc (.cells #[.int .i64 (Lib.compareInt c a),.int .i64 (Lib.compareInt x y)] 3)) (.int .i64 (orI (Lib.compareInt c a) (Lib.compareInt x y))):=λ w=>by
  haveI:Zh (w.alloc (.cells #[.int .i64 (Lib.compareInt c a),.int .i64 (Lib.compareInt x y)] 3)) w.heap.size #[.int .i64 (Lib.compareInt c a),.int .i64 (Lib.compareInt x y)]:=⟨_,heap_alloc_new _ _⟩
  exact Zhh _ _ _ _
 cases px<;>cases py<;>simp only [if_true,if_false,reduceCtorEq]at hz<;>subst hz
 all_goals
  go_in
  go_wp2_with fail;refine plZ (.q [0,1,2,3,4,5,6,7,8,9,10,11,12,13,14,15,16,17] .d) ?_;simp only [Zk.run,pick,gZ,gS,gA,gN]
  (repeat go_big_quiet_step (exact qZ));refine nZ ?_
  rintro w1 hw1;haveI:Yc bc w1:=by obtain⟨g,e⟩:=hw1;rw [e];infer_instance
  haveI:Yc lc w1:=by obtain⟨g,e⟩:=hw1;rw [e];infer_instance
  replace d0:w1.cell? ⟨bc,0,none⟩=some (.pointer (some ⟨bb,0,none⟩)):=by obtain⟨g,e⟩:=hw1;rw [e,Z7];exact d0
  replace d1:w1.cell? ⟨lc,0,none⟩=some (.int .i64 last):=by obtain⟨g,e⟩:=hw1;rw [e,Z7];exact d1
  have hB:=Xq hw1;clear hw1;go_wp2_with(with_reducible refine Fn.go λ g=>?_)
 ·go_ret;exact ZM.mk rfl (hB.trans ((grown:Below w1.heap.size w1 _).mono hB.size))
 ·refine plZ (.q [0,1,2,3,4,5,6,7,8,9] .d) ?_;simp only [Zk.run,pick,gZ,gS,gA,gN]
  (repeat go_big_quiet_step (exact qZ));refine nZ ?_
  rintro w2 hw2;have hB2:=Xq hw2;clear hw2;go_wp2_with fail;go_ret;exact ZM.mk rfl (hB.trans (hB2.mono hB.size))
 ·refine plZ (.q [0,1,2,3,4,5,6,7,8,9] .d) ?_;simp only [Zk.run,pick,gZ,gS,gA,gN]
  (repeat go_big_quiet_step (exact qZ));refine nZ ?_
  rintro w2 hw2;have hB2:=Xq hw2;clear hw2;go_wp2_with fail;go_ret;exact ZM.mk rfl (hB.trans (hB2.mono hB.size))
 ·go_ret;exact ZM.mk rfl (hB.trans ((grown:Below w1.heap.size w1 _).mono hB.size))
end
end Go.Proofs.YtlfjdjndhcmliaaGreatDoor
