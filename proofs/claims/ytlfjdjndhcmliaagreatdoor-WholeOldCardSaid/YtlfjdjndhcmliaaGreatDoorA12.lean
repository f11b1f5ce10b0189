/- WholeOld, part 12. -/
import Derived.Test.YtlfjdjndhcmliaaGreatDoorA11
import Derived.OwnWalkIn
import Derived.Test.YtlfjdjndhcmliaaGreatDoorA01
import Derived.Test.YtlfjdjndhcmliaaGreatDoorA07
import Derived.Maps.RangeWalk
import Derived.Maps.OwnSet
import Derived.Test.YtlfjdjndhcmliaaGreatDoorA09
import Derived.Maps.AppendAt
import Derived.Test.YtlfjdjndhcmliaaGreatDoorA08
set_option maxRecDepth 100000
set_option maxHeartbeats 4000000
set_option linter.all false
namespace Go.Proofs.YtlfjdjndhcmliaaGreatDoor
open Go.RowKit Go.Sort
attribute [local go_sem] Oper.semAt_some
instance:Inhabited YG:=⟨⟨0,0,false,0⟩⟩
theorem Qy{e:TypeId}{z g n cap:Nat}{L:List (List Value)}{W W1:World}(h:ZC e z (some ⟨g,0,none⟩) n cap L.flatten W W1)(hl:L.length=n)(hz:∀ x∈L,x.length=z):∃ hp:Hl,Has W hp/\YC e z g cap L hp/\Qf W1.heap.size hp:=by
 rcases h.own.2 with ⟨h0,_⟩|⟨g',cap',cur,e1,hb,hg,hle,hmx,hs,ht⟩
 ·cases h0
 ·injection e1 with e1 e2 e3;injection e1 with e1;injection e1 with e1;subst e1 e3;refine⟨λ k=>if k=g then some (.cells cur e)else none,⟨λ k o h1=>?_⟩,⟨cur,if_pos rfl,hs,by rw [hl];exact ht,hz,by omega⟩,⟨λ k hk=>if_neg (by omega)⟩⟩
  by_cases hk:k=g
  ·subst hk;rw [if_pos rfl]at h1;cases h1;exact hg
  ·rw [if_neg hk]at h1;cases h1
def yp(L:List YG):List YG:=((List.range L.length).filter λ k=>!(L[k]!).par).map λ k=>L[k]!
theorem ZhO(L:List YG):stay (λ k=>(L[k]!).par) (Ym L)=Ym (yp L):=by
 have e:(Ym L).length=L.length:=by simp [Ym]
 unfold stay;rw [e];simp only [Ym,yp,List.map_map];apply List.map_congr_left;intro k hk;have hk:k<L.length:=by have:=(List.mem_filter.1 hk).1;simpa using this
 simp [List.getElem!_eq_getElem?_getD,hk]
theorem Zbf(L:List YG):(yp L).length<=L.length:=by
 unfold yp;rw [List.length_map];exact Nat.le_trans (List.length_filter_le ..) (by simp)
theorem Zhk{L:List YG}{c:YG}(h:c∈L)(hp:c.par=false):0<(yp L).length:=by
 obtain⟨k,hk,rfl⟩:=List.mem_iff_getElem.1 h;unfold yp;rw [List.length_map,List.length_pos_iff];intro e;have:k∈(List.range L.length).filter λ k=>!(L[k]!).par:=List.mem_filter.2 ⟨by simpa using hk,by simp [hk,hp]⟩
 rw [e]at this;cases this
theorem Zig(g n cap:Nat)(L:List YG)(W W1:World)(h:ZC 370 4 (some ⟨g,0,none⟩) n cap (QY L) W W1)(hl:L.length=n)(hn:n<=100) :
  Calls Tryz.prog 357 #[.slice (some ⟨g,0,none⟩) n cap,.func (.func 359) #[] #[]] W λ e w'=>e=.returned (.slice (some ⟨g,0,none⟩) (yp L).length cap)/\Zy 4 (some ⟨g,0,none⟩) (yp L).length cap (Ym (yp L)) w'/\∃ g,w'=gr W1 g:=by
 have hC:∀ x∈Ym L,x.length=4:=by simp [Ym,YG.cl]
 have hlc:(Ym L).length=n:=by simp [Ym,hl]
 obtain⟨hp,hw,r,o⟩:=Qy (L:=Ym L) (by rw [Qk];exact h) hlc hC;have s:star [YC 370 4 g cap (Ym L),λ _=>True] hp:=⟨hp,λ _=>none,r,⟨λ _=>none,λ _=>none,trivial,trivial,λ _ _ e=>e,λ _ _ e=>e,λ _=>.inl rfl⟩,qg.refl _,λ _ _ e=>(by cases e),λ _=>.inr rfl⟩
 have D:=Zo4 g cap (Ym L) (by omega) hC (by simp [Ym,YG.cl,Value.oneCell']) 359 (by kernel_rfl) #[] (λ k=>(L[k]!).par) (λ _ _=>True) (λ k x hx=>by
  have hk:k<L.length:=by have:=(List.getElem?_eq_some_iff.1 hx).1;simpa [Ym]using this
  have ex:x=(L[k]!).cl:=by simpa [Ym,List.getElem!_eq_getElem?_getD,hk]using hx.symm
  subst ex
  exact Zja (Zjg _) _) W hp hw s
 rw [hlc,ZhO]at D;have el:(Ym (yp L)).length=(yp L).length:=by simp [Ym]
 rw [el]at D;refine D.mono ?_;rintro e w' ⟨v,rfl,m,h',i,x,rfl,L',e1,e2,s'⟩;obtain⟨gW,rfl⟩:=h.grw;haveI:=o;haveI:JL W1.heap.size (gr W1 gW):=ii;obtain⟨h0,r,sb⟩:=s'.get (i:=0) rfl;haveI:=i.sub sb;have R:=(r.rd (c:=cap) rfl w').take (yp L).length (by rw [e2,<- hl];exact Zbf L) cap;rw [e1]at R;exact⟨rfl,R,Zf (Jf (Yb W1 gW) m)⟩
theorem ZC.some_{e:TypeId}{z:Nat}{ad:Option Addr}{n cap:Nat}{xs:List Value}{W W1:World}(h:ZC e z ad n cap xs W W1)(h0:ad≠none\/0<n):∃ g,ad=some ⟨g,0,none⟩:=by
 rcases h.own.2 with ⟨h1,h2⟩|⟨g,c,cur,e,_⟩
 ·injection h1 with h1;rcases h0 with h0|h0;exact absurd h1 h0;omega
 ·injection e with e1;exact⟨g,e1⟩
theorem zV{P:Program}{F:Fence}{n:Nat}{ops:Array Oper}{rest:List Oper}{o:Oper}{a:Act}{Q:Exit->Act->World->Prop}{w:World}(hgd:o.guard=none)(d s:Operand)(t t':TypeId)
  (ho:o.op=.call { callee:=.builtin .append,args:=#[d,s],argTypes:=#[t,t'] }) (v u:Value) (hd:a.eval d=v) (hs:a.eval s=u) {v':Value} {w':World}
  (hr:∀ ty,(Builtin.append_ #[t,t'] ty #[v,u]).run P w=.ok v' w') (h:wpListIn F n P ops Q rest (a.put o.dst v') w'):wpListIn F n P ops Q (o::rest) a w:=by
 refine wpListIn_plain hgd λ K hK=>?_
 unfold Oper.wpIn;refine⟨?_,?_⟩
 ·simp [Oper.about,ho,resolve,Target.leads,Sem.run_pure]
 ·rw [Oper.semAt_plain F _ _ (by rw [ho];intro c hc';cases hc')];simp [execOp,ho,resolve,invoke,builtin,hd,hs,hr,Result.andThen];exact hK _ _ h
theorem ZeA(e:TypeId)(z n:Nat)(cs:Array Value)(hn:n<=1000000)(hz:cs.size=n*z)(W:World):ZC e z (some ⟨W.heap.size,0,none⟩) n n cs.toList (W.alloc (.cells cs e)) W :=
 ⟨⟨by simpa using hz,.inr ⟨W.heap.size,n,cs,rfl,Nat.le_refl _,alloc_heap_new _ _,Nat.le_refl _,by unfold maxLen;omega,hz,by rw [List.take_of_length_le (by simp [hz])]⟩⟩,⟨_,(congrArg (λ w:World=>w.alloc (.cells cs e)) (ZaT W)).trans (ZK _ _ _)⟩⟩
theorem Zcp(adl:Option Addr)(n capl:Nat)(L:List YG)(adg:Option Addr)(capg:Nat)(G:List ByteArray)(l:Nat)(J Jx:World->Prop)(B:Nat)(W:World)[h1:Zy 4 adl n capl (Ym L) W][h2:Zy 1 adg n capg (ZG G) W]
  (hn:n<=100) (h0n:0<n) (hG:∀ s∈G,s.size=64) (hL:∀ c∈L,0<=c.dev) (hD:∃ c∈L,c.par=false) (hne:(Ke L G n)≠[]) (hB:B<=W.heap.size) (hJ:Abides B J)
  (hY:∀ m W1,J W1->YieldAt Fence.wide m Tryz.prog l #[.int .i64 (-1),.string ⟨(Ke L G n).toArray⟩] W1 λ e W'=>e=.returned (.bool false)/\Jx W') (h0:J W) :
  Calls Tryz.prog 351 #[.slice adl n capl,.slice adg n capg,.func (.yield l) #[] #[]] W λ e W'=>(∃ v,e=.returned v)/\Jx W':=by
 have hlen:L.length=n:=by have:=h1.len;simpa [Ym]using this
 obtain⟨bl,ol,hadl,_⟩:=h1.cells 0 _ (List.getElem?_eq_getElem (by rw [h1.len];exact h0n));have CL:=ZoV adl n capl (Ym L) W (by omega) (by simp [Ym,YG.cl]) (by simp [Ym,YG.cl,Value.oneCell']) (λ e=>by rw [hadl]at e;cases e);have HW:∀ g,Calls Tryz.prog 361 #[.slice adl n capl,.slice adg n capg,.int .i64 (-1)] (gr W g) (ZM (.string ⟨(Ke L G n).toArray⟩) (gr W g)):=λ g=>Zcg adl adg n capl capg L G _ hn hL hG
 have hY':∀ m g,YieldAt Fence.wide m Tryz.prog l #[.int .i64 (-1),.string ⟨(Ke L G n).toArray⟩] (gr W g) λ e W'=>e=.returned (.bool false)/\Jx W':=λ m g=>hY m _ (hJ _ _ h0 (Jz (Below.refl _ _) hB _))
 have hte:(⟨(Ke L G n).toArray⟩:ByteArray).toList.isEmpty=false:=Yg (by
  show (Ke L G n).toArray.size≠0
  simpa using hne)
 obtain⟨cd,hcd,hcp⟩:=hD;have hdl:=Zbf L;have hd0:=Zhk hcd hcp;generalize (⟨(Ke L G n).toArray⟩:ByteArray)=t at *
 clear hY hne hcd hcp hadl;refine(callsIn_wide (n:=3)).1 ?_;refine callsIn_of_wp Tryz.func351 rfl trivial ?_ rfl;simp only [Tryz.ntmps351,List.size_toArray,List.length_cons,List.length_nil,Nat.reduceAdd,Nat.reduceSub,Array.replicate_succ,Array.replicate_zero,List.push_toArray,List.append_toArray,List.nil_append,List.cons_append]
 gi_wp2
 refine⟨trivial,callsIn_wide.2 (CL.mono ?_)⟩;rintro e w1 ⟨ad',cap',rfl,ho,hnn⟩;have had:ad'≠none:=λ e=>by have:=hnn.2 e;rw [this]at h1;obtain⟨_,_,e2,_⟩:=h1.cells 0 _ (List.getElem?_eq_getElem (by rw [h1.len];exact h0n));cases e2
 obtain⟨g,rfl⟩:=ho.some_ (.inl had);rw [Qk]at ho;have DD:=Zig g n cap' L w1 W ho hlen hn;dsimp only
 gi_wp2
 refine⟨trivial,callsIn_wide.2 (DD.mono ?_)⟩;rintro e w2 ⟨rfl,R,g2,rfl⟩;clear DD ho hnn CL had;dsimp only
 gi_wp2
 refine⟨trivial,callsIn_wide.2 ((ZjS (some ⟨g,0,none⟩) (yp L).length cap' (yp L) _ (by omega) hd0).mono ?_)⟩;rintro e w3 ⟨ad2,m,cap2,ns,rfl,hm,R3,hg3⟩
 have ho:ZC 3 1 (some ⟨(gr W g2).heap.size,0,none⟩) 1 1 [.int .i64 (-1)] w3 (gr W g2):=by
  obtain⟨g3,rfl⟩:=hg3;haveI:=ZeA 3 1 1 #[.int .i64 (-1)] (by omega) rfl (gr W g2);infer_instance
 obtain⟨ad3,cap3,w4,hap,ho4,hn4⟩:=kx (ts:=36) (e:=3) (by_:=8) ho R3 (by simp [izC]) (by simp [izC,Value.oneCell']) (by omega) (by omega);obtain⟨g4,rfl⟩:=ho4.grw;obtain⟨b4,rfl⟩:=ho4.some_ (.inl (hn4 (by simp)));have c4:(gr (gr W g2) g4).cell? ⟨b4,0,none⟩=some (.int .i64 (-1)):=ho4.facts.1 0 _ rfl;rw [ZW]at c4;generalize (yp L).length=dl at *
 have hY2:=hY';clear ho ho4 hn4 R3 R hg3;dsimp only
 gi_wp2_with (refine zV rfl _ _ _ _ rfl _ _ rfl rfl hap ?_)
 refine wpIn_loop_once ?_
 gi_wp2
 refine⟨trivial,callsIn_wide.2 ((HW _).mono ?_)⟩;rintro e w5 ⟨rfl,hb5⟩;obtain⟨g5,rfl⟩:=Zf hb5;dsimp only
 gi_wp2_with (with_reducible refine qz (hY2 _ _) λ W3 hx3=>?_)
 exact bodyPost_ret (results_none rfl _ _ _) rfl ⟨⟨_,rfl⟩,hx3⟩
end Go.Proofs.YtlfjdjndhcmliaaGreatDoor
namespace Go.Proofs.YtlfjdjndhcmliaaGreatDoor
open Go.RowKit Go.Sort
set_option maxRecDepth 512 in
theorem Zgs(s:ByteArray)(hs:s.size=64)(W:World):Calls Tryz.prog 355 #[.string s] W (ZM (.bool false) W):=by
 have hne:s.toList.isEmpty=false:=Yg (by omega)
 go_in
 go_wp2_with fail;go_ret;exact ZM.mk rfl grown
section
variable(s:ZO)(secs grp at_:Int)[k:Ky s secs](z:Nat)(adg:Option Addr)(n capg:Nat)(G:List ByteArray)
theorem Zdr(W:World)[m:GM s W][h2:Zy 1 adg n capg (ZG G) W](hm:XG s secs grp at_ z=true)(hn:(Zz s grp at_ z).length=n)(hn2:n<=100)(hG:∀ s∈G,s.size=64) :
  Fn 349 #[.agg #[.slice s.ad s.len s.cap,.int .i64 secs],.agg #[.int .i64 grp,.int .i64 at_],.int .i64 z,.slice adg n capg] W (.bool true):=by
 refine⟨?_⟩;have OA:∀ w,GM s w->_:=λ w (_:GM s w)=>kR s secs grp at_ z w
 have hm':=Lib.hid hm
 have CF:∀ W':World,[Zy 1 adg n capg (ZG G) W']->Fn 353 #[.slice adg n capg,.func (.func 355) #[] #[]] W' (.bool false):=λ W' _=>by
  have e:(ZG G).any (λ _=>false)=false:=by simp
  rw [<-e]
  exact cfS adg n capg _ W' (by omega) _ (by kernel_rfl) _ _ (λ v hv g=>by
   obtain⟨s,hs,e⟩:=List.mem_map.1 hv;injection e with e;rw [<-e]
   exact Zgs s (hG s hs) _) (QB _)
 generalize Zz s grp at_ z=L at *
 clear hm
 go_in
 go_wp2_with fail;refine(OA _ ii).mono ?_;rintro e w' ⟨hy,hno⟩;obtain⟨ad2,cap2,rfl,o2⟩:=hy hm'.out;obtain⟨g2,rfl⟩:=o2.grw;clear hy hno;rw [hn]at o2 ⊢;dsimp only;go_wp2_with(with_reducible refine Fn.go λ g=>?_);go_ret;exact ZM.mk rfl grown
def Un(L:List YG):Int:=if s.x grp.toNat=0 then(L.getD 0 default).dev else -1
def Zcm(L:List YG):ByteArray:=if s.x grp.toNat=0 then qp (G.take z)else⟨(Ke L G n).toArray⟩
theorem Ku.dat{L:List YG}(h:Ku L)(h0:L≠[]):∃ c∈L,c.par=false:=by
 obtain⟨c,l,rfl⟩:=List.exists_cons_of_ne_nil h0
 by_cases hp:c.par=false
 ·exact⟨c,by simp,hp⟩
 ·obtain⟨d,hd,hd1,_⟩:=h c (by simp) (by simpa using hp);exact⟨d,hd,hd1⟩
theorem Zcf(W:World)[m:GM s W][h2:Zy 1 adg n capg (ZG G) W](hm:XG s secs grp at_ z=true)(hn:(Zz s grp at_ z).length=n)(hn2:n<=100)(hG:∀ s∈G,s.size=64)(hz:1<=z/\z<=4/\z<=n)(hc:n<=capg)
  (hL:∀ c∈Zz s grp at_ z,0<=c.dev) (hne:Zcm s grp z n G (Zz s grp at_ z)≠⟨#[]⟩) (hrow:Ku (Zz s grp at_ z)) (b0 b1 b2 b3:Nat) [Yc b0 W] [Yc b1 W] [Yc b2 W] [Yc b3 W]
  (c00:W.cell? ⟨b0,0,none⟩=some (.slice s.ad s.len s.cap)) (c01:W.cell? ⟨b0,1,none⟩=some (.int .i64 secs)) (c10:W.cell? ⟨b1,0,none⟩=some (.int .i64 grp)) (c11:W.cell? ⟨b1,1,none⟩=some (.int .i64 at_)) (c2:W.cell? ⟨b2,0,none⟩=some (.int .i64 z)) (c3:W.cell? ⟨b3,0,none⟩=some (.slice adg n capg)) :
  ZgR Tryz.prog 348 #[.pointer (some ⟨b0,0,none⟩),.pointer (some ⟨b1,0,none⟩),.pointer (some ⟨b2,0,none⟩),.pointer (some ⟨b3,0,none⟩)] #[.int .i64 (Un s grp (Zz s grp at_ z)),.string (Zcm s grp z n G (Zz s grp at_ z))] W:=by
 intro l J Jx V hV hJ _ hY h0;obtain⟨gv,rfl⟩:=Zf hV
 have hJ2:∀ a b,J (gr W ((gv.seq a).seq b)):=λ a b=>by
  rw [<-ZW,<- ZW];exact hJ _ _ h0 (Jz (Jz (Below.refl _ _) (Nat.le_refl _) _) (kW _ _) _)
 have hB2:∀ a b,(gr W gv).heap.size<=(gr W ((gv.seq a).seq b)).heap.size:=λ a b=>by
  rw [<-ZW,<- ZW,Yl (gr (gr W gv) a),Yl (gr W gv)];omega
 clear hV;obtain⟨⟨g0,g1⟩,_,a0,a1⟩:=Xg hm;obtain⟨q,rfl⟩:=Int.eq_ofNat_of_zero_le g0;have hq:q<s.len:=by omega
 have hx0:=m.c0 q hq;have hix:=K5 m hq;haveI hbo:=m.isOld hq;have FI:∀ W':World,[GM s W']->[Zy 1 adg n capg (ZG G) W']->Fn 349 #[.agg #[.slice s.ad s.len s.cap,.int .i64 secs],.agg #[.int .i64 q,.int .i64 at_],.int .i64 z,.slice adg n capg] W' (.bool true):=λ W' _ _=>Zdr s secs q at_ z adg n capg G W' hm hn hn2 hG
 have OA:∀ w,GM s w->_:=λ w (_:GM s w)=>kR s secs (q:Int) at_ z w
 have hm':=Lib.hid hm;have hw:=Yk k.h hq;have tS:Zcm s q z n G (Zz s q at_ z)=if s.x q=0 then qp (G.take z)else⟨(Ke (Zz s q at_ z) G n).toArray⟩:=by simp [Zcm]
 have tD:Un s q (Zz s q at_ z)=if s.x q=0 then((Zz s q at_ z).getD 0 default).dev else -1:=by simp [Un]
 rw [tS]at hY hne;rw [tD]at hY;clear tS tD hm;generalize Zz s (q:Int) at_ z=L at *
 obtain⟨c0,L',rfl⟩:∃ c0 L',L=c0::L':=by
  cases L with
  |nil=>simp at hn;omega
  |cons a b=>exact⟨a,b,rfl⟩
 have hdat:=hrow.dat (by simp);rcases hw.2.2 with hx|⟨hx,h3w⟩
 ·rw [hx]at hx0;simp only [hx,if_true,List.getD_cons_zero]at hY
  go_in
  go_wp2_with(with_reducible refine Fn.go λ g=>?_);refine(OA _ ii).mono ?_;rintro e w' ⟨hy,hno⟩;obtain⟨ad2,cap2,rfl,o2⟩:=hy hm'.out;obtain⟨g2,rfl⟩:=o2.grw;clear hy hno;rw [hn]at o2 ⊢;dsimp only;go_wp2_with fail;have R2:Zy 4 ad2 n cap2 (Ym (c0::L')) (gr W ((gv.seq g).seq g2)):=ZC.rd (W1:=_) (e:=370) (by rw [Qk,<- ZW W (gv.seq g) g2];exact o2) (by simpa [Ym]using hn) (by simp [Ym,YG.cl]);refine(Zb2 ad2 n cap2 L' adg capg G z c0 l J Jx _ _ hz hn2 hc hG (hB2 g g2) hJ hY (hJ2 _ _)).mono ?_;rintro e w' ⟨⟨v,rfl⟩,hjx⟩;clear o2;dsimp only;go_wp2_with fail;go_end0;exact⟨⟨_,rfl⟩,hjx⟩
 ·rw [hx]at hx0;have hx1:s.x q≠0:=by omega
  simp only [hx1,if_false]at hY hne
  go_in
  go_wp2_with(with_reducible refine Fn.go λ g=>?_);refine(OA _ ii).mono ?_;rintro e w' ⟨hy,hno⟩;obtain⟨ad2,cap2,rfl,o2⟩:=hy hm'.out;obtain⟨g2,rfl⟩:=o2.grw;clear hy hno;rw [hn]at o2 ⊢;dsimp only;go_wp2_with fail;have R2:Zy 4 ad2 n cap2 (Ym (c0::L')) (gr W ((gv.seq g).seq g2)):=ZC.rd (W1:=_) (e:=370) (by rw [Qk,<- ZW W (gv.seq g) g2];exact o2) (by simpa [Ym]using hn) (by simp [Ym,YG.cl]);refine(Zcp ad2 n cap2 (c0::L') adg capg G l J Jx _ _ hn2 (by omega) hG hL hdat (λ e=>hne (by rw [e])) (hB2 g g2) hJ hY (hJ2 _ _)).mono ?_;rintro e w' ⟨⟨v,rfl⟩,hjx⟩;clear o2;dsimp only;go_wp2_with fail;go_end0;exact⟨⟨_,rfl⟩,hjx⟩
theorem Zk2(W:World)[m:GM s W](t:ByteArray)(ht:t.size=64*z)(hz:1<=z/\z<=4)(hm:XG s secs grp at_ z=true)(hl:(Zz s grp at_ z).length<=32)(hl0:0<(Zz s grp at_ z).length)(hr:Ku (Zz s grp at_ z))
  [h2:Zy 1 adg (Zz s grp at_ z).length capg (ZG (XT (Zz s grp at_ z) (Z6 t z))) W] :
  Fn 345 #[.agg #[.slice s.ad s.len s.cap,.int .i64 secs],.agg #[.int .i64 grp,.int .i64 at_],.string t,.slice adg (Zz s grp at_ z).length capg] W (.slice none 0 0):=by
 refine⟨?_⟩;have hD0:Z6 t z≠[]:=λ e=>by have:=XX t z;rw [e]at this;simp at this;omega
 have hG:=kH hD0 (Kr t z ht) hr;have EA:∀ w,GM s w->_:=λ w (_:GM s w)=>jl s secs grp at_ w t z ht hz hm hl hl0 hr
 have FI:∀ W':World,[GM s W']->[Zy 1 adg (Zz s grp at_ z).length capg (ZG (XT (Zz s grp at_ z) (Z6 t z))) W']->Fn 349 #[.agg #[.slice s.ad s.len s.cap,.int .i64 secs],.agg #[.int .i64 grp,.int .i64 at_],.int .i64 z,.slice adg (Zz s grp at_ z).length capg] W' (.bool true):=λ W' _ _=>Zdr s secs grp at_ z adg _ capg _ W' hm rfl (by omega) hG
 have hel:=zM (Zz s grp at_ z) (Z6 t z);have htd:((t.size:Nat):Int).tdiv 64=z:=by rw [ht,Int.tdiv_eq_ediv_of_nonneg (by omega)];omega
 generalize XT (Zz s grp at_ z) (Z6 t z)=G at *
 generalize hn:(Zz s grp at_ z).length=n at *
 clear hm hr hG
 go_in
 go_wp2_with fail;refine(EA _ ii).mono ?_;rintro e w' ⟨ad2,rfl,o2⟩;obtain⟨g2,rfl⟩:=o2.grw;have R2:=o2.rdS;dsimp only;go_wp2_with(with_reducible refine Fn.go λ g=>?_);obtain⟨X,hX⟩:∃ X,gr ((W.alloc (.cells #[.slice s.ad s.len s.cap,.int .i64 secs] 24)).alloc (.cells #[.int .i64 grp,.int .i64 at_] 45)) (g2.seq g)=X:=⟨_,rfl⟩
 have R2':Zy 1 ad2 n n (ZG G) X:=by rw [<-hX,<- ZW];infer_instance
 have R1':Zy 1 adg n capg (ZG G) X:=by rw [<-hX];infer_instance
 have hB:Below W.heap.size W X:=by rw [<-hX];(repeat' (first|(with_reducible exact Below.refl _ _)|(with_reducible refine Xc ?_ _)|(with_reducible refine Z5 ?_ _)|(with_reducible refine Below.setCell ?_ ?_ _)|(with_reducible refine Below.drew ?_)|(simp [go_sem];done)|(simp [go_sem];omega)))
 rw [hX];clear hX R2 o2 EA FI m
 go_loopw [11,12,34] (λ v _ i wr=>v=.slice none 0 0/\∃ k:Nat,k<=n/\i=.int .i64 k/\∃ g',wr=gr X g')
  (λ _ _ i _=>n-(intOf i).toNat)
 case atStart=>exact⟨rfl,0,Nat.zero_le _,rfl,Y1 _⟩
 case round =>
  obtain⟨rfl,k,hk,rfl,g',rfl⟩:=hrel
  by_cases hlt:k<n
  ·obtain⟨u,hu⟩:∃ u,G[k]?=some u:=⟨_,List.getElem?_eq_getElem (by omega)⟩
   obtain⟨b1,o1,rfl,hb1,hd1⟩:=R1'.cells k [.string u] (by simp [ZG,hu]);obtain⟨b2,o2',rfl,hb2,hd2⟩:=R2'.cells k [.string u] (by simp [ZG,hu]);have d1:=hd1 0 _ rfl;have d2:=hd2 0 _ rfl;rw [Nat.mul_one,Nat.add_zero]at d1 d2;clear hd1 hd2 hu;go_wp2_with fail;refine plZ (.q [0,1,2,3,4,5,6,7,8] .d) ?_;simp only [Zk.run,pick,gZ,gS,gA,gN]
   (repeat go_big_quiet_step (exact qZ));refine nZ ?_;rintro _ ⟨g,rfl⟩
   go_wp2_with fail;exact⟨⟨rfl,k+1,hlt,by go_num,_,rfl⟩,by simp [intOf];omega⟩
  ·obtain rfl:n=k:=by omega
   go_wp2_with fail;go_ret;exact ZM.mk rfl (Jz hB hB.size _)
end
section
variable{P:Program}{ops:Array Oper}{md:Region.Mode}{Q:Exit->Act->World->Prop}{C H:World->Prop}
def Zk.runH(P:Program)(ops:List Oper)(Q:Exit->Act->World->Prop)(H:World->Prop)(soft:List Nat):Zk->(World->Prop)->Act->Prop
 | .d,C,a=>∀ w,C w->Q .normal a w
 | .q l n,C,a=>wpQuiet P ops.toArray C (n.runH P ops Q H soft C) (pick ops l) a
 | .f l n,C,a=>wpQuiet P ops.toArray H (n.runH P ops Q H soft C) (pick ops l) a
 | .x l n,C,a=>∀ w,C w->wpList P ops.toArray (Nx λ a' w'=>(l.all soft.contains=true->H w')/\n.runH P ops Q H soft (YL w') a') (pick ops l) a w
 |_,_,_=>False
def okH(md:Region.Mode)(ops:Array Oper)(loud soft:List Nat)(hard:Bool)(k:Array Bool->Bool):List Nat->Array Bool->Bool
 | [],listed=>k listed
 |i::l,listed=>(Region.ready md ops listed).contains i&&Region.free md ops listed i&&!loud.contains i &&
   (if hard then Ug md ops loud [] listed i else Ug md ops loud soft listed i&&opB ops calm i)&&okH md ops loud soft hard k l (listed.setIfInBounds i true)
def Zk.okH(md:Region.Mode)(ops:Array Oper)(loud soft:List Nat):Bool->Zk->Array Bool->Bool
 |_,.d,listed=>(Region.ready md ops listed).isEmpty
 |b,.q l n,listed=>Go.Proofs.YtlfjdjndhcmliaaGreatDoor.okH md ops loud soft true (n.okH md ops loud soft b) l listed
 |b,.f l n,listed=>b&&Go.Proofs.YtlfjdjndhcmliaaGreatDoor.okH md ops loud soft false (n.okH md ops loud soft b) l listed
 |b,.x [i] n,listed=>decide (Region.ready md ops listed=[i])&&loud.contains i&&n.okH md ops loud soft (b&&soft.contains i) (listed.setIfInBounds i true)
 |_,_,_=>false
open Classical in
def qj(P:Program)(md:Region.Mode)(ops:Array Oper)(loud soft:List Nat)(H:World->Prop)(Q:Exit->Act->World->Prop):Nat->(World->Prop)->Array Bool->Act->Prop
 |0,C,listed,a=>Region.ready md ops listed=[]/\∀ w,C w->Q .normal a w
 |f+1,C,listed,a=>Region.ready md ops listed≠[]/\∀ i∈Region.ready md ops listed,
   if i∈loud then ∀ w,C w->wpOp P ops NoQ i (λ a' w'=>∃ D:World->Prop,D w'/\(i∈soft->∀ w,D w->H w)/\qj P md ops loud soft H Q f D (listed.setIfInBounds i true) a') a w
   else qOp P ops C i (qj P md ops loud soft H Q f C (listed.setIfInBounds i true)) a
theorem XK{loud soft:List Nat}:∀(f:Nat)(C:World->Prop)(listed:Array Bool)(a:Act)(w:World),C w->qj P md ops loud soft H Q f C listed a->wpAny P md ops Q f listed a w
 |0,_,_,_,w,hw,h=>⟨h.1,h.2 w hw⟩
 |f+1,C,listed,a,w,hw,h=>⟨λ h0=>absurd h0 h.1,λ i hi=>by
   have h1:=h.2 i hi;split at h1
   ·exact Zaz (wpOp_mono (λ a' w' ⟨D,hD,_,h'⟩=>XK f D _ a' w' hD h') (h1 w hw))
   ·exact wpOp_of_qOp hw (λ a' w' hw' h'=>XK f C _ a' w' hw' h') h1⟩
def ZbP(P:Program)(md:Region.Mode)(ops:Array Oper)(loud soft:List Nat)(H C:World->Prop)(listed:Array Bool)(i:Nat)(oi:Oper)(v:Value)(a:Act):Prop :=
 (∀ j∈loud,listed.getD j false=true\/forced md ops ops.size j i=true)\/((∀ w,C w->H w)/\(∀ j∈loud,listed.getD j false=true\/forced md ops ops.size j i=true\/j∈soft)/\∀ D:World->Prop,(∀ w,D w->H w)->YieldsIn P ops D oi v a)
theorem Zeg{loud soft:List Nat}{i:Nat}{oi:Oper}{v:Value}(hi:ops[i]?=some oi)(hil:i ∉ loud)(hsel:∀(j:Nat)(o:Oper) cs b,ops[j]?=some o->o.op≠.select cs b) :
  ∀(f:Nat)(C:World->Prop)(listed:Array Bool)(a:Act),Closed md ops listed ->
   (∀ j oj,ops[j]?=some oj->j≠i->listed.getD j true=false->(∀ e∈oj.after,Region.binds md e=true->e.on≠i)->oi.apart ops oj=true) ->
   i∈Region.ready md ops listed->YieldsIn P ops C oi v a->ZbP P md ops loud soft H C listed i oi v a ->
   qj P md ops loud soft H Q f C (listed.setIfInBounds i true) (a.put oi.dst v)->qj P md ops loud soft H Q (f+1) C listed a:=by
 intro f
 induction f with
 |zero =>
  intro C listed a _ _ hr hy _ K;refine⟨λ h=>(by rw [h]at hr;cases hr),λ j hj=>?_⟩
  by_cases hji:j=i
  ·subst hji;rw [if_neg hil];exact hy.qOp hi K
  ·have:=ready_mono hj hji;rw [K.1]at this;cases this
 |succ f ih =>
  intro C listed a hcl hfree hr hy ht K;refine⟨λ h=>(by rw [h]at hr;cases hr),λ j hj=>?_⟩
  by_cases hji:j=i
  ·subst hji;rw [if_neg hil];exact hy.qOp hi K
  ·have h1:=K.2 j (ready_mono hj hji);obtain⟨hjun,oj,hoj,hall⟩:=mem_ready.1 hj;have hiun:=getD_both (mem_ready.1 hr).1
   have hnot:∀ e∈oj.after,Region.binds md e=true->e.on≠i:=λ e he hb heq=>by
    have h1:=hall e he hb;rw [heq,hiun]at h1;cases h1
   have hap:=hfree j oj hoj hji hjun hnot;have h3:=(Oper.apart_spec hap).2.2;have hsi:∀ cs b,oi.op≠.select cs b:=λ cs b=>hsel i oi cs b hi
   have hfree':∀ k ok,ops[k]?=some ok->k≠i->(listed.setIfInBounds j true).getD k true=false ->
     (∀ e∈ok.after,Region.binds md e=true->e.on≠i)->oi.apart ops ok=true:=λ k ok hk hki hun hno=>by
    refine hfree k ok hk hki ?_ hno
    by_cases hjk:j=k
    ·subst hjk;exact hjun
    ·rw [getD_set_ne true hjk]at hun;exact hun
   have hcl':=hcl.set hj;have hr':=ready_mono hr (Ne.symm hji);have hset:∀ k,listed.getD k false=true->(listed.setIfInBounds j true).getD k false=true:=λ k h=>getD_set_true h
   have hnj:listed.getD j false=true\/forced md ops ops.size j i=true->False:=λ h=>by
    rcases h with h2|h2
    ·rw [getD_both hjun]at h2;cases h2
    ·have:=K8 hcl _ j oj hoj h2 hall;rw [hiun]at this;cases this
   by_cases hjl:j∈loud
   ·rw [if_pos hjl]at h1 ⊢;intro w hw;rcases ht with h|⟨hC,hso,hall'⟩
    ·exact(hnj (h j hjl)).elim
    ·have hjs:j∈soft:=by
      rcases hso j hjl with h2|h2|h2
      ·exact(hnj (.inl h2)).elim
      ·exact(hnj (.inr h2)).elim
      ·exact h2
     refine wpOp_mono (λ a' w' h5=>?_) (zH (Y:=λ a'=>∀ D:World->Prop,(∀ w,D w->H w)->YieldsIn P ops D oi v a') hoj hap (λ cs b=>hsel j oj cs b hoj) (λ u l D hD=>Xr hsi h3 (hall' D hD) u l) (h1 w hw));obtain⟨hy5,D,hD,hg,h5⟩:=h5;refine⟨D,hD,hg,ih D (listed.setIfInBounds j true) a' hcl' hfree' hr' (hy5 D (hg hjs)) (.inr ⟨hg hjs,λ k hk=>(hso k hk).imp (hset k) id,hy5⟩) ?_⟩;rw [Array.setIfInBounds_comm _ _ hji];exact h5
   ·rw [if_neg hjl]at h1 ⊢;refine qOp_mono (λ a' h5=>ih C (listed.setIfInBounds j true) a' hcl' hfree' hr' h5.1.1 h5.1.2 ?_) (Uj (Y:=λ a'=>YieldsIn P ops C oi v a'/\ZbP P md ops loud soft H C (listed.setIfInBounds j true) i oi v a') hoj hap (λ cs b=>hsel j oj cs b hoj) (λ u=>?_) h1)
    ·rw [Array.setIfInBounds_comm _ _ hji];exact h5.2
    ·refine⟨Xr hsi h3 hy u a.defers,?_⟩;rcases ht with h|⟨hC,hso,hall'⟩
     ·exact .inl λ k hk=>(h k hk).imp (hset k) id
     ·exact .inr ⟨hC,λ k hk=>(hso k hk).imp (hset k) id,λ D hD=>Xr hsi h3 (hall' D hD) u a.defers⟩
theorem Ua{o:Oper}{v:Value}{a:Act}(ho:∀(w:World) f args w',(execOp a.eval o).run P w≠.ok (.enter f args) w')(h:YieldsIn P ops H o v a)(D:World->Prop)(hD:∀ w,D w->H w):YieldsIn P ops D o v a:=by
 rcases h with ⟨hw,h⟩|⟨hw,h⟩
 ·refine .inl ⟨hw,λ w hd=>?_⟩;have h1:=h w (hD w hd);unfold Oper.quietAt at *
  cases hr:(execOp a.eval o).run P w with
  |ok n w' =>
   rw [hr]at h1;cases n<;>first|exact h1|exact(ho _ _ _ _ hr).elim
  |halt x w'=>rw [hr]at h1;exact h1
 ·exact .inr ⟨hw,h⟩
theorem yC{loud soft:List Nat}(hsel:∀(j:Nat)(o:Oper) cs b,ops[j]?=some o->o.op≠.select cs b){hard:Bool}{D:World->Prop}(hD:hard=true->D=C)(hA:hard=false->D=H/\∀ w,C w->H w){k:Array Bool->Bool}{K:Act->Prop}{f:Nat}
  (hk:∀ listed a,Closed md ops listed->k listed=true->K a->qj P md ops loud soft H Q f C listed a):∀(l:List Nat)(listed:Array Bool)(a:Act),Closed md ops listed->okH md ops loud soft hard k l listed=true ->
   wpQuiet P ops D K (pick ops.toList l) a->qj P md ops loud soft H Q (l.length+f) C listed a
 | [],listed,a,hcl,hB,h=>by rw [List.length_nil,Nat.zero_add];exact hk listed a hcl hB h
 |i::l,listed,a,hcl,hB,h=>by
  simp only [okH,Bool.and_eq_true]at hB;obtain⟨⟨⟨⟨hr,hf⟩,hl⟩,hh⟩,hB'⟩:=hB;have hr:i∈Region.ready md ops listed:=by simpa using hr
  obtain⟨_,oi,hoi,_⟩:=mem_ready.1 hr;have hoi':ops.toList[i]?=some oi:=by simpa using hoi
  simp only [pick,hoi',List.singleton_append]at h;have hq:qOp P ops D i (wpQuiet P ops D K (pick ops.toList l)) a:=by unfold qOp;simp only [hoi];exact h
  obtain⟨v,hy,hK⟩:=yieldsIn_of_qOp hoi hq
  have ht:YieldsIn P ops C oi v a/\ZbP P md ops loud soft H C listed i oi v a:=by
   cases hard with
   |true =>
    obtain rfl:=hD rfl;simp only [if_true,Ug]at hh;exact⟨hy,.inl λ j hj=>by simpa using List.all_eq_true.1 hh j hj⟩
   |false =>
    obtain⟨rfl,hCH⟩:=hA rfl;simp only [Bool.false_eq_true,if_false,Bool.and_eq_true,Ug,opB,hoi,Option.map_some,Option.getD_some]at hh;have ha:=Ua (KY hh.2) hy;exact⟨ha C hCH,.inr ⟨hCH,λ j hj=>by simpa [or_assoc]using List.all_eq_true.1 hh.1 j hj,ha⟩⟩
  rw [List.length_cons,show l.length+1+f=(l.length+f)+1 by omega];exact Zeg hoi (by simpa using hl) hsel _ C listed a hcl (Region.free_spec hoi hf) hr ht.1 ht.2 (yC hsel hD hA hk l _ _ (hcl.set hr) hB' hK)
theorem QP{loud soft:List Nat}(hH:GC H)(hsel:∀(j:Nat)(o:Oper) cs b,ops[j]?=some o->o.op≠.select cs b):∀(t:Zk)(b:Bool)(C:World->Prop)(listed:Array Bool)(a:Act),(b=true->∀ w,C w->H w)->Closed md ops listed->t.okH md ops loud soft b listed=true->t.runH P ops.toList Q H soft C a ->
  qj P md ops loud soft H Q t.size C listed a
 | .d,_,C,listed,a,_,_,hB,h=>⟨by simpa [Zk.okH]using hB,h⟩
 | .q l n,b,C,listed,a,hC,hcl,hB,h=>yC (hard:=true) hsel (λ _=>rfl) (λ h=>by cases h) (λ listed' a' hc hB' h'=>QP hH hsel n b C listed' a' hC hc hB' h') l listed a hcl hB (by simpa [Zk.runH]using h)
 | .f l n,b,C,listed,a,hC,hcl,hB,h=>by
  simp only [Zk.okH,Bool.and_eq_true]at hB;exact yC (hard:=false) hsel (λ h=>by cases h) (λ _=>⟨rfl,hC hB.1⟩) (λ listed' a' hc hB' h'=>QP hH hsel n b C listed' a' hC hc hB' h') l listed a hcl hB.2 (by simpa [Zk.runH]using h)
 | .x [i] n,b,C,listed,a,hC,hcl,hB,h=>by
  simp only [Zk.okH,Bool.and_eq_true,decide_eq_true_eq]at hB;obtain⟨⟨hr,hl⟩,hn⟩:=hB;have hri:i∈Region.ready md ops listed:=by rw [hr];simp
  obtain⟨_,oi,hoi,_⟩:=mem_ready.1 hri;have hoi':ops.toList[i]?=some oi:=by simpa using hoi
  rw [show (Zk.x [i] n).size=n.size+1 by simp [Zk.size,Nat.add_comm]];refine⟨by rw [hr];simp,λ j hj=>?_⟩;obtain rfl:j=i:=by rw [hr]at hj;simpa using hj
  rw [if_pos (by simpa using hl)];intro w hw;have h1:wpList P ops (Nx λ a' w'=>([j].all soft.contains=true->H w')/\n.runH P ops.toList Q H soft (YL w') a') (pick ops.toList [j]) a w:=by simpa [Zk.runH]using h w hw
  simp only [pick,hoi',List.append_nil]at h1;refine wpOp_mono (λ a' w' hh=>?_) (Z8 hoi h1);obtain⟨h2,h3⟩:([j].all soft.contains=true->H w')/\n.runH P ops.toList Q H soft (YL w') a':=hh;have hs:j∈soft->∀ v,YL w' v->H v:=λ hj v hv=>hH _ _ (h2 (by simpa using hj)) hv
  exact⟨YL w',YY w',hs,QP hH hsel n _ (YL w') _ a' (λ hb=>hs (by simp only [Bool.and_eq_true]at hb;simpa using hb.2)) (hcl.set hri) hn h3⟩
 | .x [] _,_,_,_,_,_,_,hB,_ | .x (_::_::_) _,_,_,_,_,_,_,hB,_ | .c _ _,_,_,_,_,_,_,hB,_ | .g _ _,_,_,_,_,_,_,hB,_ | .y _ _ _ _,_,_,_,_,_,_,hB,_ | .z _ _ _ _,_,_,_,_,_,_,hB,_=>by simp [Zk.okH]at hB
theorem Kx{id:Nat}{a:Act}{w:World}{l:List Oper}(H:World->Prop)(soft:List Nat)(t:Zk)(hH:GC H)(h0:H w)(hm:P.follows .mixedOrders=true)(hB:(Region.noSelect l.toArray&&decide (t.size=l.length)&&t.okH .any l.toArray t.louds soft true (Array.replicate l.length false))=true)
  (h:t.runH P l Q H soft (YL w) a):(Code.region id l.toArray true).wp P Q a w:=by
 simp only [Bool.and_eq_true,decide_eq_true_eq]at hB;obtain⟨⟨hs,hz⟩,hk⟩:=hB;refine wp_region_any hm (XK (loud:=t.louds) (soft:=soft) (H:=H) _ (YL w) _ _ _ ⟨⟨w.drawn+1,#[]⟩,by simp only [gr,grow_empty];rfl⟩ ?_);have:=QP (md:=.any) (Q:=Q) hH (Region.noSelect_spec hs) t true (YL w) (Array.replicate l.length false) a (λ _ v hv=>hH _ _ h0 hv) (λ j oj _ hl=>by rw [getD_replicate_false]at hl;cases hl) hk (by simpa using h);rw [hz]at this;simpa using this
end
end Go.Proofs.YtlfjdjndhcmliaaGreatDoor
namespace Go.Proofs.YtlfjdjndhcmliaaGreatDoor
open Go.RowKit Go.Sort
open Go.Maps Go.ChangeMaps
open Go.WideElems (Fit rd rg pl)
theorem Zbc:∀(N:Nat)(l:List Nat),l.Nodup->(∀ x∈l,x<N)->l.length<=N
 |0,[],_,_=>Nat.le_refl _
 |0,x::l,_,h=>absurd (h x (by simp)) (Nat.not_lt_zero _)
 |N+1,l,hn,h=>by
  have h1:=Zbc N (l.erase N) (hn.erase N) λ x hx=>by
   have:=(hn.mem_erase_iff).1 hx;have:=h x this.2;omega
  rw [List.length_erase]at h1;split at h1<;>omega
def slR(v:Value):Option (DataW Value × List MemPlace):=match v with
 | .slice _ _ _=>some (.held v,[])
 |_=>none
theorem ZdU(v:Value)(y:DataW Value × List MemPlace)(h:slR v=some y):y=(.held v,[]):=by
 unfold slR at h;split at h
 ·cases h;rfl
 ·cases h
abbrev jM:=Nat × Nat × Nat
def slv:Option jM->Value
 |some (b,n,c)=>.slice (some ⟨b,0,none⟩) n c
 |none=>.slice none 0 0
theorem ZiE(x:Option jM):slR (slv x)=some (.held (slv x),[]):=by cases x<;>rfl
structure ZkE(D:DataW Value)(g:Nat->Option jM):Prop where
 at_:∀ k v,g k=some v->∀ z,D.atKey (.int .i64 k) z=.held (slv (some v))
 non:∀ k,g k=none->Maps.has D (.int .i64 k)=false
 key:∀ kl,Maps.has D kl=true->∃ k:Nat,kl=.int .i64 k/\k<4096/\g k≠none
def jn(C:Nat)(g:Nat->Option jM):SP:=λ h=>∃ es clock,h C=some (.map es clock)/\Fit Tryz.prog 3 slR es clock/\ZkE (.map ((es.toList.map (rg Tryz.prog 3 slR)).foldr DataW.insert [])) g
theorem jn.own{C:Nat}{g:Nat->Option jM}{h:Hl}(m:jn C g h)(W:World)[i:Has W h]:∃ D,W.ownsMap Tryz.prog 3 slR C 4096 D/\ZkE D g:=by
 obtain⟨es,clock,hb,F,d⟩:=m;refine⟨_,⟨es,clock,i.get _ _ hb,F,?_,rfl⟩,d⟩;have hown:W.ownsMap Tryz.prog 3 slR C es.size _:=⟨es,clock,i.get _ _ hb,F,Nat.le_refl _,rfl⟩
 obtain⟨el,e1,hp,hk⟩:=hown.entries (int_keyed Tryz.underlying3)
 have el2:el.length=es.size:=by
  rw [<-DataW.map.inj e1,length_sorted];simp
 rw [<-el2];rw [e1]at d
 have hkey:∀ p∈el,∃ k:Nat,p.1=.int .i64 k/\k<4096:=λ p hp=>by
  obtain⟨k,h1,h2,_⟩:=d.key p.1 (List.any_eq_true.2 ⟨p,hp,WideAt.sameKey_self (hk p hp)⟩);exact⟨k,h1,h2⟩
 have h2:=Zbc 4096 (el.map λ p=>match p.1 with | .int _ a=>a.toNat|_=>0) (by
  rw [List.Nodup,List.pairwise_map];refine hp.imp_of_mem λ {a b} ha hb hne e=>?_
  obtain⟨k,h1,_⟩:=hkey a ha;obtain⟨k',h1',_⟩:=hkey b hb;rw [h1,h1']at e hne;simp at e
  exact hne (by rw [e])) (λ x hx=>by
  obtain⟨p,hp,rfl⟩:=List.mem_map.1 hx;obtain⟨k,h1,h2⟩:=hkey p hp
  rw [h1];simpa using h2)
 simpa using h2
theorem ZgA(k:Nat)(hk:k<4096):(Lit.int .i64 (k:Int)).wf=true:=by
 have h1:IntKind.i64.min=-9223372036854775808:=by decide
 have h2:IntKind.i64.max=9223372036854775807:=by decide
 simp [Lit.wf,h1,h2];omega
theorem qw{C:Nat}{g:Nat->Option jM}{h:Hl}(m:jn C g h)(W:World)[i:Has W h](k:Nat)(hk:k<4096):(Instr.lookup 102 (.map (some C)) (.int .i64 k) false).run Tryz.prog W=.ok (slv (g k)) W:=by
 obtain⟨es,clock,hb,F,d⟩:=m;rcases Maps.fit_look false (int_keyed Tryz.underlying3) Tryz.underlying102 (z:=.slice none 0 0) (by kernel_rfl) (i.get _ _ hb) F (keyOf_int_mk Tryz.underlying3 (ZgA k hk))with ⟨hrun,_,hat⟩|⟨e0,y,_,_,hrun,hy,hat,_⟩
 ·cases hg:g k with
  |none=>exact hrun
  |some v =>
   have:=d.at_ k v hg (.nil);rw [hat]at this;exact absurd this (by simp)
 ·cases hg:g k with
  |none =>
   have:=Maps.atKey_of_not_has (d.non k hg) .nil;rw [hat,ZdU _ _ hy]at this;cases this
  |some v =>
   have:=d.at_ k v hg .nil;rw [hat,ZdU _ _ hy]at this;have e:e0.val=slv (some v):=DataW.held.inj this;rw [<-e];exact hrun
theorem Ji{W W':World}{h:Hl}{b:Nat}{o o':Obj}{P:Hl->Prop}(i:Has W h)(hb:h b=some o)(hg:W.grownBy W' (some b))(hb':W'.heap[b]?=some o')(p:P (h.put b o')):Zg W h P W':=by
 refine Zg.mk (h.put b o') ⟨hg.os,hg.tape,hg.output,hg.size,λ k hk e=>hg.block k hk (λ e2=>by cases e2;rw [hb]at e;cases e)⟩ ⟨λ n o e=>?_⟩ (λ n hn e=>?_) p
 ·by_cases hn:n=b
  ·subst hn;rw [Hl.put_same]at e;cases e;exact hb'
  ·rw [Hl.put_other _ _ hn]at e;exact(hg.block n (i.lt e) (λ e2=>by cases e2;exact hn rfl)).trans (i.get n o e)
 ·by_cases hn:n=b
  ·subst hn;rw [hb]at e;cases e
  ·rw [Hl.put_other _ _ hn];exact e
def yK(g:Nat->Option jM)(k:Nat)(v:jM)(j:Nat):Option jM:=if j=k then some v else g j
theorem Ziv{C:Nat}{g:Nat->Option jM}{h:Hl}(m:jn C g h)(W:World)[i:Has W h](k:Nat)(hk:k<4096)(v:jM) :
  ∃ W',(Instr.mapUpdate 102 (.map (some C)) (.int .i64 k) (slv (some v))).run Tryz.prog W=.ok () W'/\Zg W h (λ h'=>jn C (yK g k v) h'/\∀ n,n≠C->h' n=h n) W':=by
 obtain⟨D,hown,d⟩:=m.own W;have K:=int_keyed (P:=Tryz.prog) (k:=3) Tryz.underlying3;have hkey:=keyOf_int_mk (P:=Tryz.prog) (k:=3) Tryz.underlying3 (ZgA k hk);have hmap:=hown.isMap;obtain⟨W',hrun,hown',hg⟩:=hown.update K Tryz.underlying102 (by unfold maxLen;omega) hkey (ZiE (some v));obtain⟨es',clock',hb',F',_,e'⟩:=hown';obtain⟨es,clock,hb,_⟩:=m;refine⟨W',hrun,Ji i hb hg hb' ⟨⟨es',clock',Hl.put_same ..,F',?_⟩,λ n hn=>Hl.put_other _ _ hn⟩⟩;rw [<-e'];have hkl:∀ j:Nat,j≠k->(Lit.int .i64 (j:Int))≠Lit.int .i64 (k:Int):=λ j hj e=>by injection e with _ e;omega
 refine⟨λ j u hj z=>?_,λ j hj=>?_,λ kl hkl'=>?_⟩
 ·by_cases hjk:j=k
  ·subst hjk;rw [yK,if_pos rfl]at hj;cases hj;exact Maps.atKey_put_same hmap (K.key hkey) _ _
  ·rw [yK,if_neg hjk]at hj;rw [Maps.atKey_put_other (hkl j hjk)];exact d.at_ j u hj z
 ·by_cases hjk:j=k
  ·rw [yK,if_pos hjk]at hj;cases hj
  ·rw [yK,if_neg hjk]at hj;rw [Maps.has_put_other (hkl j hjk)];exact d.non j hj
 ·by_cases hkk:kl=Lit.int .i64 (k:Int)
  ·exact⟨k,hkk,hk,by simp [yK]⟩
  ·rw [Maps.has_put_other hkk]at hkl';obtain⟨j,h1,h2,h3⟩:=d.key kl hkl';refine⟨j,h1,h2,?_⟩;have hjk:j≠k:=λ e=>hkk (by rw [h1,e])
   rw [yK,if_neg hjk];exact h3
theorem Zfi{C:Nat}{g:Nat->Option jM}{h:Hl}(m:jn C g h)(W:World)[i:Has W h] :
  ∃ W',(∀ ty,(Builtin.clear_ #[102] ty #[.map (some C)]).run Tryz.prog W=.ok (.tuple #[]) W')/\Zg W h (λ h'=>jn C (λ _=>none) h'/\∀ n,n≠C->h' n=h n) W':=by
 obtain⟨es,clock,hb,F,_⟩:=m;have hW:=i.get _ _ hb;refine⟨setBlock W C (.map #[] clock),λ ty=>?_,?_⟩
 ·simp [Builtin.clear_,run_underlying Tryz.underlying102,MapKept.run_getObj_map hW,MapKept.run_setObj_map _ hW,Result.andThen,setBlock]
 ·refine Ji i hb ⟨rfl,rfl,rfl,by simp [setBlock],λ j _ hj=>heap_setBlock_other hW _ (λ e=>hj (by rw [e]))⟩ (heap_setBlock_same hW _) ⟨⟨#[],clock,Hl.put_same ..,⟨by simp,MapKept.stamped_empty clock,by simp⟩,⟨λ k v e=>(by cases e),λ k _=>rfl,λ kl e=>(by cases e)⟩⟩,λ n hn=>Hl.put_other _ _ hn⟩
end Go.Proofs.YtlfjdjndhcmliaaGreatDoor
namespace Go.Proofs.YtlfjdjndhcmliaaGreatDoor
open Go.RowKit Go.Sort
structure jR(h:Hl)(d secs N M mc C:Nat)(ms:List ByteArray)(g:Nat->Option jM)(f:Nat->ByteArray):Prop where
 dev:h d=some (.cells #[.slice (some ⟨M,0,none⟩) secs mc,.map (some C),.bool false,.int .i64 (-1)] 104)
 med:YC 9 1 M mc (ZG ms) h
 len:ms.length=secs
 map:jn C g h
 row:∀ k b n c,g k=some (b,n,c)->n<=N/\c<=maxLen/\∃ L,YC 9 1 b c (ZG L) h/\L.length=n/\L.getLast?=some (f k)
 inj:∀ k k' b n c n' c',g k=some (b,n,c)->g k'=some (b,n',c')->k=k'
 ne:∀ k b n c,g k=some (b,n,c)->b≠d/\b≠M
 dM:d≠M
 low:∀ k,k<secs->g k=none->ms[k]?=some (f k)
 key:∀ k,g k≠none->k<secs
 sz:∀ k,k<secs->(f k).size=64
def Qh(d secs N:Nat)(f:Nat->ByteArray):SP:=λ h=>(secs<=4096/\N<=1000000000000)/\∃ M mc C ms g,jR h d secs N M mc C ms g f
class X3(d:Nat)(secs:outParam Nat)(f:outParam (Nat->ByteArray))(W:World):Prop where
 i:∃ N,In (Qh d secs N f) W
instance ZlB(d secs:Nat)(f:Nat->ByteArray)(W:World)(o:Obj)[k:X3 d secs f W]:X3 d secs f (W.alloc o):=by obtain⟨N,_⟩:=k.i;exact⟨N,ii⟩
instance ZnK(d secs:Nat)(f:Nat->ByteArray)(W:World)(g:Gr)[k:X3 d secs f W]:X3 d secs f (gr W g):=by obtain⟨N,_⟩:=k.i;exact⟨N,ii⟩
section
variable(d secs:Nat)(f:Nat->ByteArray)(W:World)[D:X3 d secs f W]
theorem QS:∃ N M mc C ms g h,(secs<=4096/\N<=1000000000000)/\jR h d secs N M mc C ms g f/\Has W h/\Yc d W/\W.cell? ⟨d,0,none⟩=some (.slice (some ⟨M,0,none⟩) secs mc)/\W.cell? ⟨d,1,none⟩=some (.map (some C))/\W.cell? ⟨d,2,none⟩=some (.bool false)/\W.cell? ⟨d,3,none⟩=some (.int .i64 (-1)):=by
 obtain⟨N,D⟩:=D.i;obtain⟨h,⟨h0,M,mc,C,ms,g,i⟩,hw⟩:=D.ex;exact⟨N,M,mc,C,ms,g,h,h0,i,hw,Has.old i.dev,Has.cell i.dev,Has.cell i.dev,Has.cell i.dev,Has.cell i.dev⟩
set_option maxRecDepth 512 in
instance Zn2:Fn 75 #[.pointer (some ⟨d,0,none⟩)] W (.bool false):=by
 refine⟨?_⟩;obtain⟨N,M,mc,C,ms,g,h,_,i,hw,ho,c0,c1,c2,c3⟩:=QS d secs f W
 go_in
 go_wp2_with fail;go_ret;exact ZM.mk rfl grown
set_option maxRecDepth 512 in
instance Znd:Fn 126 #[.pointer (some ⟨d,0,none⟩)] W (.int .i64 secs):=by
 refine⟨?_⟩;obtain⟨N,M,mc,C,ms,g,h,_,i,hw,ho,c0,c1,c2,c3⟩:=QS d secs f W
 go_in
 go_wp2_with fail;go_ret;exact ZM.mk rfl grown
include D in
set_option maxRecDepth 512 in
theorem Vq(k:Nat)(hk:k<secs):Fn 31 #[.pointer (some ⟨d,0,none⟩),.int .i64 k] W (.int .i64 0):=by
 refine⟨?_⟩;obtain⟨N,M,mc,C,ms,g,h,_,i,hw,ho,c0,c1,c2,c3⟩:=QS d secs f W;have hk':(k:Int)<secs:=by omega
 go_in
 go_wp2_with(with_reducible refine Fn.go λ g=>?_);go_ret;exact ZM.mk rfl grown
theorem Zcw(k:Nat)(hk:k<secs):Fn 32 #[.pointer (some ⟨d,0,none⟩),.int .i64 k] W (.string (f k)):=by
 refine⟨?_⟩;obtain⟨N,M,mc,C,ms,g,h,⟨h4,hN⟩,i,hw,ho,c0,c1,c2,c3⟩:=QS d secs f W;have hl:=qw i.map W k (by omega);cases hg:g k with
 |none =>
  rw [hg]at hl;have hm:=i.low k hk hg;have R:=i.med.rd (n:=secs) (c:=mc) (by simp [ZG,i.len]) W;obtain⟨b,o,e,hb,hc⟩:=R.cells k [.string (f k)] (by simp [ZG,hm]);cases e;have cm:=hc 0 _ rfl;rw [Nat.zero_add,Nat.mul_one,Nat.add_zero]at cm;simp only [slv]at hl;have hk':(k:Int)<secs:=by omega
  clear hc hm R i
  go_in
  go_wp2_with fail;go_ret;exact ZM.mk rfl grown
 |some v =>
  obtain⟨b,n,c⟩:=v;rw [hg]at hl;obtain⟨hnN,_,L,hr,hL,hlast⟩:=i.row k b n c hg;have hn:0<n:=by rw [<-hL];exact List.length_pos_iff.2 (λ e=>by rw [e]at hlast;cases hlast)
  have R:=hr.rd (n:=n) (c:=c) (by simp [ZG,hL]) W;obtain⟨b',o,e,hb,hc⟩:=R.cells (n-1) [.string (f k)] (by rw [ZG,List.getElem?_map,<- hL,<- List.getLast?_eq_getElem?,hlast];rfl);cases e;have cm:=hc 0 _ rfl;rw [Nat.zero_add,Nat.mul_one,Nat.add_zero]at cm;simp only [slv]at hl;obtain⟨m,rfl⟩:∃ m,n=m+1:=⟨n-1,by omega⟩
  rw [Nat.add_sub_cancel]at cm;clear hc R i hlast hr
  go_in
  go_wp2_with fail;go_ret;exact ZM.mk rfl grown
set_option maxRecDepth 512 in
theorem Zbs(k:Nat)(hk:k<secs):Fn 135 #[.pointer (some ⟨d,0,none⟩),.int .i64 k] W (.tuple #[.string (f k),.int .i64 0]):=by
 refine⟨?_⟩;have H1:∀ W',[X3 d secs f W']->Fn 31 #[.pointer (some ⟨d,0,none⟩),.int .i64 k] W' (.int .i64 0):=λ W' _=>Vq d secs f W' k hk
 have H2:∀ W',[X3 d secs f W']->Fn 32 #[.pointer (some ⟨d,0,none⟩),.int .i64 k] W' (.string (f k)):=λ W' _=>Zcw d secs f W' k hk
 go_in
 go_wp2_with(with_reducible refine Fn.go λ g=>?_);go_ret2;exact ZM.mk rfl grown
end
set_option maxRecDepth 512 in
theorem ZaO(d secs:Nat)(f:Nat->ByteArray)(W:World)[D:X3 d secs f W]:Fn 127 #[.pointer (some ⟨d,0,none⟩)] W (.bool false):=by
 refine⟨?_⟩;obtain⟨N,M,mc,C,ms,g,h,_,i,hw,ho,c0,c1,c2,c3⟩:=QS d secs f W;have fz:∀ k,W.frozen? ⟨d,k,none⟩=false:=λ k=>Has.frozen i.dev
 have f3:=fz 3;have hs:=Kj c3
 go_in
 go_wp2_with fail;go_ret;rw [show Kb (-2) (-1)=-1 from rfl,hs];exact ZM.mk rfl grown
structure ZmN(h:Hl)(d secs N M mc C:Nat)(ms:List ByteArray)(g:Nat->Option jM)(f:Nat->ByteArray)(k:Nat)(v:jM)(s:ByteArray):Prop where
 dev:h d=some (.cells #[.slice (some ⟨M,0,none⟩) secs mc,.map (some C),.bool false,.int .i64 (-1)] 104)
 med:YC 9 1 M mc (ZG ms) h
 map:jn C g h
 row:∀ j b n c,j≠k->g j=some (b,n,c)->n<=N/\c<=maxLen/\∃ L,YC 9 1 b c (ZG L) h/\L.length=n/\L.getLast?=some (f j)
 new:v.2.1<=N+1/\v.2.2<=maxLen/\∃ L,YC 9 1 v.1 v.2.2 (ZG L) h/\L.length=v.2.1/\L.getLast?=some s
 ne:v.1≠d/\v.1≠M/\∀ j b n c,j≠k->g j=some (b,n,c)->b≠v.1
theorem Zeb(L:List ByteArray)(s:ByteArray):(ZG L).flatten++[Value.string s]=(ZG (L++[s])).flatten:=by simp [ZG]
open Classical in
theorem ZbJ{h:Hl}{d secs N M mc C:Nat}{ms:List ByteArray}{g:Nat->Option jM}{f:Nat->ByteArray}(i:jR h d secs N M mc C ms g f)(hN:N<=1000000000000)(W:World)[hw:Has W h](k:Nat)(b0:Nat)(s:ByteArray)(c0:W.cell? ⟨b0,0,none⟩=some (.string s)) :
  ∃ v W',(Builtin.append_ #[101,101] 101 #[slv (g k),.slice (some ⟨b0,0,none⟩) 1 1]).run Tryz.prog W=.ok (slv (some v)) W'/\Zg W h (λ h'=>ZmN h' d secs N M mc C ms g f k v s) W':=by
 obtain⟨ii,hi,hz0,hz1,hz2⟩:∃ ii,Tryz.prog.info? 9=some ii/\ii.zero=some (.string ⟨#[]⟩)/\ii.size=1/\ii.bytes=16:=by
  have:(Tryz.prog.info? 9).map (λ i=>(i.zero,i.size,i.bytes))=some (some (.string ⟨#[]⟩),1,16):=by kernel_rfl
  cases hq:Tryz.prog.info? 9 with
  |none=>rw [hq]at this;cases this
  |some ii =>
   rw [hq]at this;simp only [Option.map_some,Option.some.injEq,Prod.mk.injEq]at this;exact⟨ii,rfl,this.1,this.2.1,this.2.2⟩
 obtain⟨L,n,hL,hn,hown⟩:∃(L:List ByteArray)(n:Nat),L.length=n/\n<=N/\W.ownsRow 0 9 1 (slv (g k)) n (ZG L).flatten:=by
  cases hg:g k with
  |none=>exact⟨[],0,rfl,Nat.zero_le _,by simp [ZG],.inl ⟨rfl,rfl⟩⟩
  |some v =>
   obtain⟨b,n,c⟩:=v;obtain⟨h1,h2,L,⟨cur,r1,r2,r3,r4,r5⟩,hL,_⟩:=i.row k b n c hg;refine⟨L,n,hL,h1,by rw [Yy r4,ZG,List.length_map,hL],.inr ⟨b,c,cur,rfl,Nat.zero_le _,hw.get _ _ r1,?_,h2,by rw [r2],?_⟩⟩
   ·rw [ZG,List.length_map,hL]at r5;exact r5
   ·rw [<-r3,ZG,List.length_map,hL]
 obtain⟨v',W',hrun,hown',hgr,hnil,hloc⟩:=run_append_own_at (P:=Tryz.prog) W 0 101 101 9 ii (.string ⟨#[]⟩) 1 16 Tryz.underlying101 hi hz0 hz1 hz2 rfl (by omega) _ n _ hown ⟨b0,0,none⟩ 1 1 [.string s] rfl
  (λ j u hj=>by
   match j,hj with
   |0,hj=>simp at hj;subst hj;rw [zj];exact c0
   |j+1,hj=>simp at hj) (by simp [Value.oneCell']) (by unfold maxLen;omega) (by omega) (Nat.zero_le _)
 rw [Zeb]at hown';rcases hown'.2 with ⟨rfl,h0⟩|⟨b',c',cur',rfl,_,hb',hle',hmx',hs',ht'⟩
 ·omega
 refine⟨(b',n+1,c'),W',hrun,?_⟩
 have hloc:b'=W.heap.size\/∃ nn cc,g k=some (b',nn,cc):=by
  rcases hloc with e|e
  ·right;cases hg:g k with
   |none=>rw [hg]at e;cases e
   |some v=>obtain⟨b,n2,c2⟩:=v;rw [hg]at e;injection e with e;subst e;exact⟨n2,c2,rfl⟩
  ·left;injection e
 have hob:∀ b,(slv (g k)).ownBlock=some b->∃ n c,g k=some (b,n,c):=λ b e=>by
  cases hg:g k with
  |none=>rw [hg]at e;cases e
  |some v=>obtain⟨b2,n2,c2⟩:=v;rw [hg]at e;injection e with e;subst e;exact⟨n2,c2,rfl⟩
 have hlt:∀ b o,h b=some o->b<W.heap.size:=λ b o e=>hw.lt e
 have keep:∀ b o,h b=some o->(∀ n c,g k≠some (b,n,c))->W'.heap[b]?=some o:=λ b o e hne=>by
  rw [hgr.block b (hlt b o e) (λ e2=>by obtain⟨n,c,e3⟩:=hob b e2.symm;exact hne n c e3)];exact hw.get _ _ e
 refine Zg.mk (λ m=>if m=b' then some (.cells cur' 9)else if ∃ n c,g k=some (m,n,c)then none else h m) ⟨hgr.os,hgr.tape,hgr.output,hgr.size,λ m hm e=>hgr.block m hm (λ e2=>?_)⟩ ⟨λ m o e=>?_⟩ (λ m hm e=>?_) ?_
 ·obtain⟨n2,c2,e3⟩:=hob m e2.symm;obtain⟨_,_,L2,⟨cur2,r1,_⟩,_⟩:=i.row k m n2 c2 e3;rw [r1]at e;cases e
 ·split at e
  ·rename_i hm;subst hm;cases e;exact hb'
  ·split at e
   ·cases e
   ·rename_i hne;exact keep m o e λ n c e3=>hne ⟨n,c,e3⟩
 ·rw [if_neg]
  ·split
   ·rfl
   ·exact e
  ·rintro rfl;rcases hloc with h1|⟨nn,cc,h1⟩
   ·omega
   ·obtain⟨_,_,L2,⟨cur2,r1,_⟩,_⟩:=i.row k m nn cc h1;rw [r1]at e;cases e
 ·have hbd:∀ b o,h b=some o->(∀ n c,g k≠some (b,n,c))->b≠b':=λ b o e hne e2=>by
   subst e2;rcases hloc with h1|⟨nn,cc,h1⟩
   ·have:=hlt _ _ e;omega
   ·exact hne nn cc h1
  have st:∀ b o,h b=some o->(∀ n c,g k≠some (b,n,c))->(if b=b' then some (Obj.cells cur' 9)else if ∃ n c,g k=some (b,n,c)then none else h b)=some o:=λ b o e hne=>by
   rw [if_neg (hbd b o e hne),if_neg (by rintro⟨n,c,e3⟩;exact hne n c e3)];exact e
  have nd:∀ n c,g k≠some (d,n,c):=λ n c e=>(i.ne k d n c e).1 rfl
  have nM:∀ n c,g k≠some (M,n,c):=λ n c e=>(i.ne k M n c e).2 rfl
  have nC:∀ n c,g k≠some (C,n,c):=λ n c e=>by
   obtain⟨_,_,L2,⟨cur2,r1,_⟩,_⟩:=i.row k C n c e;obtain⟨es,cl,m1,_⟩:=i.map;rw [r1]at m1;cases m1
  have nj:∀ j b n c,j≠k->g j=some (b,n,c)->∀ n' c',g k≠some (b,n',c'):=λ j b n c hj e n' c' e'=>hj (i.inj j k b n c n' c' e e')
  refine⟨st _ _ i.dev nd,?_,?_,λ j b nn c hj hg=>?_,⟨by dsimp only;omega,hmx',L++[s],⟨cur',if_pos rfl,by rw [hs'],by rw [<-ht'];simp [ZG,hL],QB _,by simp [ZG,hL];omega⟩,by simp [hL],by simp⟩,?_,?_,λ j b nn c hj hg=>?_⟩
  ·obtain⟨cur,m1,m2,m3,m4,m5⟩:=i.med;exact⟨cur,st _ _ m1 nM,m2,m3,m4,m5⟩
  ·obtain⟨es,cl,m1,m2⟩:=i.map;exact⟨es,cl,st _ _ m1 nC,m2⟩
  ·obtain⟨h1,h2,L2,⟨cur2,r1,r2⟩,h4⟩:=i.row j b nn c hg;exact⟨h1,h2,L2,⟨cur2,st _ _ r1 (nj j b nn c hj hg),r2⟩,h4⟩
  ·exact(hbd d _ i.dev nd).symm
  ·obtain⟨cur,m1,_⟩:=i.med;exact(hbd M _ m1 nM).symm
  ·obtain⟨_,_,L2,⟨cur2,r1,_⟩,_⟩:=i.row j b nn c hg;exact hbd b _ r1 (nj j b nn c hj hg)
def Qw(f:Nat->ByteArray)(k:Nat)(s:ByteArray)(j:Nat):ByteArray:=if j=k then s else f j
theorem ZjF{h h':Hl}{d secs N M mc C:Nat}{ms:List ByteArray}{g:Nat->Option jM}{f:Nat->ByteArray}{k:Nat}{v:jM}{s:ByteArray}{h0:Hl}(i:jR h0 d secs N M mc C ms g f)(j:ZmN h d secs N M mc C ms g f k v s)(hk:k<secs)(hs:s.size=64)(hm:jn C (yK g k v) h')(hh:∀ n,n≠C->h' n=h n):jR h' d secs (N+1) M mc C ms (yK g k v) (Qw f k s):=by
 have nc:∀ {b:Nat} {cs:Array Value} {t:TypeId},h b=some (.cells cs t)->b≠C:=λ {b cs t} e e2=>by
  subst e2;obtain⟨es,cl,m1,_⟩:=j.map;rw [e]at m1;cases m1
 have rw':∀ {b c:Nat} {L:List (List Value)},YC 9 1 b c L h->YC 9 1 b c L h':=λ {b c L} ⟨cur,r1,r2⟩=>⟨cur,by rw [hh b (nc r1)];exact r1,r2⟩
 have ug:∀ {x:Nat} {y:jM},yK g k v x=some y->(x=k/\v=y)\/(x≠k/\g x=some y):=λ {x y} e=>by
  unfold yK at e
  by_cases hx:x=k
  ·rw [if_pos hx]at e;cases e;exact .inl ⟨hx,rfl⟩
  ·rw [if_neg hx]at e;exact .inr ⟨hx,e⟩
 refine⟨by rw [hh d (nc j.dev)];exact j.dev,rw' j.med,i.len,hm,λ x b n c e=>?_,λ x y b n c n' c' e e'=>?_,λ x b n c e=>?_,i.dM,λ x hx e=>?_,λ x e=>?_,λ x hx=>?_⟩
 ·rcases ug e with ⟨rfl,rfl⟩|⟨hx,e⟩
  ·obtain⟨h1,h2,L,r,h3,h4⟩:=j.new;exact⟨h1,h2,L,rw' r,h3,by rw [h4,Qw,if_pos rfl]⟩
  ·obtain⟨h1,h2,L,r,h3,h4⟩:=j.row x b n c hx e;exact⟨by omega,h2,L,rw' r,h3,by rw [h4,Qw,if_neg hx]⟩
 ·rcases ug e with ⟨hx,e1⟩|⟨hx,e1⟩<;>rcases ug e' with ⟨hy,e2⟩|⟨hy,e2⟩
  ·rw [hx,hy]
  ·exact absurd (by rw [e1]) (j.ne.2.2 y _ n' c' hy e2)
  ·exact absurd (by rw [e2]) (j.ne.2.2 x b n c hx e1)
  ·exact i.inj x y b n c n' c' e1 e2
 ·rcases ug e with ⟨rfl,rfl⟩|⟨hx,e⟩
  ·exact⟨j.ne.1,j.ne.2.1⟩
  ·exact i.ne x b n c e
 ·have hxk:x≠k:=λ h=>by subst h;simp [yK]at e
  rw [yK,if_neg hxk]at e;rw [Qw,if_neg hxk];exact i.low x hx e
 ·by_cases hxk:x=k
  ·rw [hxk];exact hk
  ·rw [yK,if_neg hxk]at e;exact i.key x e
 ·unfold Qw;split
  ·exact hs
  ·exact i.sz x hx
theorem qq{P:Program}{ops:Array Oper}{rest:List Oper}{o:Oper}{a:Act}{Q:Exit->Act->World->Prop}{w:World}(hgd:o.guard=none)(t:TypeId)(m x y:Operand)(ho:o.op=.mapUpdate t m x y)(vm vx vy:Value)(hm:a.eval m=vm)(hx:a.eval x=vx)(hy:a.eval y=vy){w':World}
  (hr:(Instr.mapUpdate t vm vx vy).run P w=.ok () w') (h:wpList P ops Q rest (a.put o.dst undef) w'):wpList P ops Q (o::rest) a w:=by
 refine wpList_plain hgd λ K hK=>?_
 unfold Oper.wp execOp;simp only [ho,hm,hx,hy,Sem.run_bind,Sem.run_pure,hr,Result.andThen_ok];exact hK _ _ h
structure JD(p:SP) where
 w:World
 h:In p w
@[go_sem] def YT (p:SP) (w:World):Prop:=∃ x:JD p,w=x.w
theorem Zq(p:SP):GC (YT p):=λ _ _ ⟨x,e⟩ ⟨g,e'⟩=>⟨⟨gr x.w g,by have:=x.h;infer_instance⟩,by rw [e',e]⟩
theorem YT.of{p:SP}{W:World}(i:In p W):YT p W:=⟨⟨W,i⟩,rfl⟩
def yu(d:Nat)(cs:Array Value)(C:Nat)(g:Nat->Option jM):SP:=λ h=>h d=some (.cells cs 104)/\jn C g h
theorem yu.cell{d:Nat}{cs:Array Value}{C:Nat}{g:Nat->Option jM}(x:JD (yu d cs C g))(k:Nat):x.w.cell? ⟨d,k,none⟩=cs[k]?:=by
 obtain⟨h,⟨h1,_⟩,i⟩:=x.h.ex;exact Has.cell h1
theorem yu.look{d:Nat}{cs:Array Value}{C:Nat}{g:Nat->Option jM}(x:JD (yu d cs C g))(k:Nat)(hk:k<4096):(Instr.lookup 102 (.map (some C)) (.int .i64 k) false).run Tryz.prog x.w=.ok (slv (g k)) x.w:=by
 obtain⟨h,⟨_,h1⟩,i⟩:=x.h.ex;exact qw h1 x.w k hk
theorem Va(d secs N:Nat)(f:Nat->ByteArray)(k:Nat)(s:ByteArray)(hk:k<secs)(hs:s.size=64)(hN:N<1000000000000) :
  Tu 70 #[.pointer (some ⟨d,0,none⟩),.int .i64 k,.string s] (Qh d secs N f) λ v h=>v=.int .i64 0/\Qh d secs (N+1) (Qw f k s) h:=by
 intro W h hw hp;haveI:X3 d secs f W:=⟨N,⟨h,hp,hw⟩⟩
 obtain⟨⟨h4,_⟩,M,mc,C,ms,gm,i⟩:=hp;have H1:∀ W',[X3 d secs f W']->Fn 31 #[.pointer (some ⟨d,0,none⟩),.int .i64 k] W' (.int .i64 0):=λ W' _=>Vq d secs f W' k hk
 have H2:∀ W',[X3 d secs f W']->Fn 127 #[.pointer (some ⟨d,0,none⟩)] W' (.bool false):=λ W' _=>ZaO d secs f W'
 have hs':(s.size:Int)=64:=by omega
 generalize hcs:(#[.slice (some ⟨M,0,none⟩) secs mc,.map (some C),.bool false,.int .i64 (-1)]:Array Value)=cs at *
 have c1:∀ x:JD (yu d cs C gm),x.w.cell? ⟨d,1,none⟩=some (.map (some C)):=λ x=>by rw [yu.cell,<- hcs];rfl
 have hl:∀ x:JD (yu d cs C gm),_:=λ x=>yu.look x k (by omega)
 have hl0:=λ W' (i':Has W' h)=>@qw C gm h i.map W' i' k (by omega)
 go_in
 go_wp2_with(with_reducible refine Fn.go λ g=>?_);haveI:Nonempty (JD (yu d cs C gm)):=⟨⟨W,⟨h,⟨by rw [<-hcs];exact i.dev,i.map⟩,hw⟩⟩⟩
 refine Kx (YT (yu d cs C gm)) [12,13] (.q [11] (.f [0,1,2,3,4,5,6,7,8,9,10] (.x [12] (.x [13] (.x [14] .d))))) (Zq _) (YT.of ⟨h,⟨by rw [<-hcs];exact i.dev,i.map⟩,ii⟩) (by kernel_rfl) (by kernel_rfl) ?_;simp only [Zk.runH,pick,List.getElem?_cons_zero,List.getElem?_cons_succ,List.cons_append,List.nil_append]
 (repeat go_big_quiet_step (exact qZ));refine nZ ?_
 (repeat go_big_quiet_step (exact qZ));refine nZ ?_
 rintro V0 hV0;haveI:Has V0 h:=by obtain⟨g3,rfl⟩:=hV0;infer_instance
 have tn0:Tn W h V0 h:=by obtain⟨g3,rfl⟩:=hV0;infer_instance
 clear hV0;go_wp2_with fail;refine⟨λ _=>YT.of ⟨h,⟨by rw [<-hcs];exact i.dev,i.map⟩,ii⟩,?_⟩;rintro V hV;have hb:V.cell? ⟨V0.heap.size,0,none⟩=some (.string s):=by obtain⟨g3,rfl⟩:=hV;simp [go_sem]
 haveI:Has V h:=by obtain⟨g3,rfl⟩:=hV;infer_instance
 have tn:Tn W h V h:=by obtain⟨g3,rfl⟩:=hV;infer_instance
 clear hV tn0;obtain⟨v,W3,hr,m3,h3,i3,x3,j⟩:=ZbJ i (by omega) V k _ s hb;refine ZP rfl _ _ _ _ rfl _ _ rfl rfl hr ?_;refine⟨λ _=>YT.of ⟨h3,⟨by rw [<-hcs];exact j.dev,j.map⟩,i3⟩,?_⟩;rintro _ ⟨g4,rfl⟩;obtain⟨W5,hr5,m5,h5,i5,x5,hm5,he5⟩:=Ziv j.map (gr W3 g4) k (by omega) v;refine qq rfl _ _ _ _ rfl _ _ _ rfl rfl rfl hr5 ?_;refine⟨λ h=>absurd h (by decide),?_⟩;rintro _ ⟨g6,rfl⟩;have T:Zg W h (Qh d secs (N+1) (Qw f k s)) (gr W5 g6):=Zg.gr (Zg.after tn.m tn.x (Zg.after m3 x3 (Zg.after (Xz.gr (Xz.refl h3 W3) g4) (λ _ _ e=>e) ⟨m5,h5,i5,x5,⟨h4,by omega⟩,M,mc,C,ms,_,ZjF i j hk hs hm5 he5⟩))) g6;clear hr hr5 m3 m5 x3 x5 tn;go_wp2_with fail;go_ret;exact⟨_,rfl,T.mono λ h' p=>⟨rfl,p⟩⟩
end Go.Proofs.YtlfjdjndhcmliaaGreatDoor
namespace Go.Proofs.YtlfjdjndhcmliaaGreatDoor
open Go.RowKit Go.Sort
open Go.Maps Go.ChangeMaps
theorem Zci{h:Hl}{d secs N M mc C:Nat}{ms:List ByteArray}{g:Nat->Option jM}{f:Nat->ByteArray}(i:jR h d secs N M mc C ms g f){k:Nat}(hk:k<secs)(W:World)[hw:Has W h] :
  ∃ h',Has (W.setCell ⟨M,k,none⟩ (.string (f k))) h'/\jR h' d secs N M mc C (ms.set k (f k)) g f/\∀ n,h n=none->h' n=none:=by
 obtain⟨cur,m1,m2,m3,m4,m5⟩:=i.med;have hl:(ZG ms).length=secs:=by simp [ZG,i.len]
 rw [hl]at m5 m3;have st:∀ {b:Nat} {cs:Array Value} {t:TypeId},h b=some (.cells cs t)->b≠M->(h.put M (.cells (cur.setIfInBounds k (.string (f k))) 9)) b=some (.cells cs t):=λ {b cs t} e hb=>by rw [Hl.put_other _ _ hb];exact e
 have cM:C≠M:=λ e=>by
  obtain⟨es,cl,e1,_⟩:=i.map;rw [e,m1]at e1;cases e1
 refine⟨h.put M (.cells (cur.setIfInBounds k (.string (f k))) 9),⟨λ n o e=>?_⟩,⟨st i.dev i.dM,?_,by simp [i.len],?_,λ x b n c e=>?_,i.inj,i.ne,i.dM,λ x hx e=>?_,i.key,i.sz⟩,λ n e=>?_⟩
 ·by_cases hn:n=M
  ·subst hn;rw [Hl.put_same]at e;cases e;exact heap_setCell (hw.get _ _ m1)
  ·rw [Hl.put_other _ _ hn]at e;rw [Below.heap_setCell _ _ _ _ (λ e2:n=M=>hn e2)];exact hw.get n o e
 ·refine⟨_,Hl.put_same ..,by simpa using m2,?_,QB _,by simp [ZG,i.len];exact m5⟩;have e:(ZG (ms.set k (f k))).flatten=(ZG ms).flatten.set k (.string (f k)):=by rw [Xe,Xe];simp [Xd,List.map_set]
  rw [e,<- m3];simp only [Array.toList_setIfInBounds,ZG,List.length_map,List.length_set,i.len,Nat.mul_one];rw [List.take_set]
 ·obtain⟨es,cl,e1,e2⟩:=i.map;exact⟨es,cl,by rw [Hl.put_other _ _ cM];exact e1,e2⟩
 ·obtain⟨h1,h2,L,⟨c2,r1,r2⟩,h4⟩:=i.row x b n c e;exact⟨h1,h2,L,⟨c2,st r1 (i.ne x b n c e).2,r2⟩,h4⟩
 ·by_cases hxk:k=x
  ·subst hxk;rw [List.getElem?_set_self (by rw [i.len];exact hx)]
  ·rw [List.getElem?_set_ne hxk];exact i.low x hx e
 ·by_cases hn:n=M
  ·subst hn;rw [m1]at e;cases e
  ·rw [Hl.put_other _ _ hn];exact e
theorem Zes(W:World)(g g':Gr)(M k:Nat)(v:Value):W.grownBy (gr ((gr W g).setCell ⟨M,k,none⟩ v) g') (some M):=by
 have m:=(((Xz.refl (λ n=>if n=M then some (.cells #[] 0)else none) W).gr g).setCell (p:=⟨M,k,none⟩) (.inr (by simp)) v).gr g';exact⟨m.os,m.tape,m.output,m.size,λ i hi e=>m.block i hi (if_neg λ e2=>e (by rw [e2]))⟩
theorem jn.own2{C:Nat}{g:Nat->Option jM}{h:Hl}(m:jn C g h):∃ D,ZkE D g/\∀ W,Has W h->W.ownsMap Tryz.prog 3 slR C 4096 D:=by
 have m':=m;obtain⟨es,clock,hb,F,d⟩:=m;refine⟨_,d,λ W i=>?_⟩;obtain⟨D',⟨es',clock',hb',F',hs',e'⟩,_⟩:=m'.own W;rw [i.get _ _ hb]at hb';cases hb';exact⟨es,clock,i.get _ _ hb,F,hs',rfl⟩
theorem Zjp(key:Value)(kl:Lit)(h:keyOf Tryz.prog 3 key=some kl):∃ x:Int,key=.int .i64 x:=by
 obtain⟨x,h1,_⟩:=keyOf_int_inv Tryz.underlying3 h;exact⟨x,h1⟩
theorem Zlq(v:Value)(y:DataW Value × List MemPlace)(h:slR v=some y):∃ c:Option Addr × Nat × Nat,v=.slice c.1 c.2.1 c.2.2:=by
 unfold slR at h;split at h
 ·exact⟨(_,_,_),rfl⟩
 ·cases h
theorem qX{ops:Array Oper}{rest:List Oper}{o:Oper}{a:Act}{Q:Exit->Act->World->Prop}{W w:World}{h:Hl}[tn:Tn W h w h](hg:o.guard=none)(m:Operand)(hop:o.op=.range 102 m)(C n:Nat)(D:DataW Value)(hm:a.eval m=.map (some C))(hown:w.ownsMap Tryz.prog 3 slR C n D)
  (hK:∀ w' r,W.heap.size<=r->w'.ranges Tryz.prog 3 slR C r n D (Maps.has D) (Maps.size D)->Xz h W w'->Has w' h->wpList Tryz.prog ops Q rest (a.put o.dst (.pointer (some ⟨r,0,none⟩))) w'):wpList Tryz.prog ops Q (o::rest) a w:=by
 refine wpList_range_own _ hg m _ hop 3 101 (int_keyed Tryz.underlying3) Tryz.underlying102 _ C n D hm hown λ w' hr hg0 _=>?_
 refine hK w' _ tn.m.size hr (tn.m.trans (h':=h) ⟨hg0.os,hg0.tape,hg0.output,hg0.size,λ k hk _=>hg0.block k hk (by simp)⟩ λ _ _ e=>e) ⟨λ x o e=>?_⟩;exact(hg0.block x (tn.i.lt e) (by simp)).trans (tn.i.get x o e)
theorem Zfm(d secs N:Nat)(f:Nat->ByteArray):Tu 117 #[.pointer (some ⟨d,0,none⟩)] (Qh d secs N f) λ v h=>v=.int .i64 0/\Qh d secs N f h:=by
 intro W h hw hp;haveI:X3 d secs f W:=⟨N,⟨h,hp,hw⟩⟩
 obtain⟨h4,M,mc,C,ms,gm,i⟩:=hp;have H2:∀ W',[X3 d secs f W']->Fn 127 #[.pointer (some ⟨d,0,none⟩)] W' (.bool false):=λ W' _=>ZaO d secs f W'
 obtain⟨D,md,hown⟩:=i.map.own2;have cc:∀(W':World)(j:Nat),[Has W' h]->W'.cell? ⟨d,j,none⟩=(#[.slice (some ⟨M,0,none⟩) secs mc,.map (some C),.bool false,.int .i64 (-1)]:Array Value)[j]?:=λ W' j _=>Has.cell i.dev
 go_in
 go_wp2_with(first|(at_range;refine qX (W:=W) (h:=h) rfl _ rfl C 4096 D rfl (hown _ ii) ?_;intro w0 r hrW hrg0 hm0 hi0)|(with_reducible refine Fn.go λ g=>?_));go_frame;have K:=int_keyed (P:=Tryz.prog) (k:=3) Tryz.underlying3;clear cc
 go_loopw [3] (λ _ wr=>∃ left cnt ms' h',wr.ranges Tryz.prog 3 slR C r 4096 D left cnt/\Xz h W wr/\Has wr h'/\(∀ n,h n=none->h' n=none)/\jR h' d secs N M mc C ms' gm f/\∀ k:Nat,gm k≠none->left (.int .i64 k)=false->ms'[k]?=some (f k))
  (λ _ wr=>wr.rangeLeft C r)
 case atStart=>exact⟨_,_,ms,h,hrg0,hm0,hi0,λ _ e=>e,i,λ k hk e=>by
  cases hg:gm k with
  |none=>exact absurd hg hk
  |some v=>rw [Maps.has_true_of_atKey (md.at_ k v hg)]at e;cases e⟩
 case round =>
  clear hrg0 hm0 hi0;obtain⟨left,cnt,ms',h',hrg,hm,hi,hx,dI,hdn⟩:=hrel;have cl0:wr.cell? ⟨d,0,none⟩=some (.slice (some ⟨M,0,none⟩) secs mc):=Has.cell dI.dev;have cl1:wr.cell? ⟨d,1,none⟩=some (.map (some C)):=Has.cell dI.dev;obtain⟨W5,hc5,T5⟩:=Zfi dI.map wr;go_wp2_with(at_next;refine wpList_next_ranges _ rfl _ rfl 3 K slR (λ x:Int=>Value.int .i64 x) (λ c:Option Addr × Nat × Nat=>Value.slice c.1 c.2.1 c.2.2) Zjp Zlq C r 4096 D left cnt rfl hrg ?_ ?_)
  ·intro hc0 hl0
   have T:Zg W h (Qh d secs N f) W5:=Zg.after hm (λ n _ e=>hx n e) (T5.mono λ h5 ⟨m5,e5⟩=>⟨h4,M,mc,C,ms',λ _=>none,by
    have nc:∀ {b:Nat} {cs:Array Value} {t:TypeId},h' b=some (.cells cs t)->b≠C:=λ {b cs t} e e2=>by
     subst e2;obtain⟨es,cl,q1,_⟩:=dI.map;rw [e]at q1;cases q1
    obtain⟨cur,q1,q2⟩:=dI.med;refine⟨by rw [e5 d (nc dI.dev)];exact dI.dev,⟨cur,by rw [e5 M (nc q1)];exact q1,q2⟩,dI.len,m5,λ k b n c e=>(by cases e),λ k k' b n c n' c' e=>(by cases e),λ k b n c e=>(by cases e),dI.dM,λ k hk _=>?_,λ k e=>absurd rfl e,dI.sz⟩
    by_cases hg:gm k=none
    ·exact dI.low k hk hg
    ·exact hdn k hg (hl0 _)⟩)
   clear T5 hrg hm hx hdn;go_wp2;go_ret;exact⟨_,rfl,T.mono λ h' p=>⟨rfl,p⟩⟩
  ·intro x c1 c2 c3 kl y1 y2 w1 cnt1 hkey hlk hy hat hrg1 hlt hg1 hs1 hen;clear hc5 T5;obtain⟨x',e1,e2,_⟩:=keyOf_int_inv Tryz.underlying3 hkey;cases e1;obtain⟨k,e3,hk4,hgk⟩:=md.key kl (Maps.has_true_of_atKey hat);obtain rfl:x=(k:Int):=by rw [e2]at e3;injection e3
   have hks:=dI.key k hgk;have hrn:h' r=none:=hx r (hw.out hrW);have hi1:Has w1 h':=⟨λ n o e=>(hg1.block n (hi.lt e) (λ e4=>by cases e4;rw [hrn]at e;cases e)).trans (hi.get n o e)⟩
   haveI:X3 d secs f w1:=⟨N,⟨h',⟨h4,M,mc,C,ms',gm,dI⟩,hi1⟩⟩
   have H3:∀ W',[X3 d secs f W']->Fn 32 #[.pointer (some ⟨d,0,none⟩),.int .i64 k] W' (.string (f k)):=λ W' _=>Zcw d secs f W' k hks
   generalize hcs:(#[.slice (some ⟨M,0,none⟩) secs mc,.map (some C),.bool false,.int .i64 (-1)]:Array Value)=cs at *
   have c1':∀ x:JD (yu d cs C gm),x.w.cell? ⟨d,0,none⟩=some (.slice (some ⟨M,0,none⟩) secs mc):=λ x=>by rw [yu.cell,<- hcs];rfl
   have hH:YT (yu d cs C gm) w1:=YT.of ⟨h',⟨by rw [<-hcs];exact dI.dev,dI.map⟩,hi1⟩;haveI:Nonempty (JD (yu d cs C gm)):=⟨⟨w1,⟨h',⟨by rw [<-hcs];exact dI.dev,dI.map⟩,hi1⟩⟩⟩
   go_wp2;refine Kx (YT (yu d cs C gm)) [7] (.q [5,6] (.f [0,1,2,3,4] (.x [7] (.q [8] (.x [9] .d))))) (Zq _) hH (by kernel_rfl) (by kernel_rfl) ?_;simp only [Zk.runH,pick,List.getElem?_cons_zero,List.getElem?_cons_succ,List.cons_append,List.nil_append]
   (repeat go_big_quiet_step (exact qZ));refine nZ ?_
   (repeat go_big_quiet_step (exact qZ));refine nZ ?_
   rintro V0 hV0;haveI:Has V0 h':=by obtain⟨g3,rfl⟩:=hV0;infer_instance
   haveI:X3 d secs f V0:=by obtain⟨g3,rfl⟩:=hV0;infer_instance
   have hg2:∃ g3,V0=gr w1 g3:=hV0;clear hV0;go_wp2_with(with_reducible refine Fn.go λ g=>?_);refine⟨λ _=>YT.of ⟨h',⟨by rw [<-hcs];exact dI.dev,dI.map⟩,ii⟩,?_⟩
   (repeat go_big_quiet_step (exact qZ));refine nZ ?_
   rintro V1 hV1;have hg3:∃ g3,V1=gr w1 g3:=by obtain⟨g3,rfl⟩:=hg2;obtain⟨g4,rfl⟩:=hV1;exact⟨_,by rw [ZW,ZW]⟩
   clear hV1 hg2;have hi2:Has V1 h':=by obtain⟨g3,rfl⟩:=hg3;infer_instance
   obtain⟨cur,q1,q2,q3,q4,q5⟩:=dI.med;have hl:(ZG ms').length=secs:=by simp [ZG,dI.len]
   rw [hl]at q3 q5
   have hck:∃ x,cur[k]?=some (.string x):=by
    have e:(cur.toList.take (secs*1))[k]?=(ZG ms').flatten[k]?:=by rw [q3]
    rw [List.getElem?_take_of_lt (by omega),Xe]at e;have hm:k<ms'.length:=by rw [dI.len];exact hks
    refine⟨ms'[k],?_⟩;rw [<-Array.getElem?_toList,e];simp [Xd,hm]
   obtain⟨x,hck⟩:=hck;haveI:HAt h' M cur:=⟨_,q1⟩
   go_wp2_with fail;obtain⟨h2,hi3,dI2,hx2⟩:=Zci dI hks V1;refine⟨λ h=>absurd h (by decide),?_⟩;rintro _ ⟨g6,rfl⟩;have hMr:M≠r:=λ e=>by rw [e,hrn]at q1;cases q1
   have hMC:M≠C:=λ e=>by
    obtain⟨es,cl,e1,_⟩:=dI.map;rw [<-e,q1]at e1;cases e1
   have hm1:Xz h W w1:=⟨hg1.os.trans hm.os,hg1.tape.trans hm.tape,hg1.output.trans hm.output,Nat.le_trans hm.size hg1.size,λ n hn e=>(hg1.block n (Nat.lt_of_lt_of_le hn hm.size) (λ e4=>by cases e4;omega)).trans (hm.block n hn e)⟩
   obtain⟨cu0,j1,_⟩:=i.med
   have hm2:Xz h W (gr (V1.setCell ⟨M,k,none⟩ (.string (f k))) g6):=by
    obtain⟨g3,rfl⟩:=hg3;exact((hm1.gr g3).setCell (.inr (by rw [j1];simp)) _).gr g6
   have hrg2:(gr (V1.setCell ⟨M,k,none⟩ (.string (f k))) g6).ranges Tryz.prog 3 slR C r 4096 D (λ z=>left z&&!z.sameKey kl) cnt1:=by
    obtain⟨g3,rfl⟩:=hg3;exact hrg1.kept (Zes w1 g3 g6 M k _) (λ e=>hMC (by cases e;rfl)) (λ e=>hMr (by cases e;rfl))
   go_roundw
   case rel=>exact⟨_,_,_,_,_,_,_,_,_,_,_,_,_,_,⟨_,_,ms'.set k (f k),h2,hrg2,hm2,ii,λ n e=>hx2 n (hx n e),dI2,λ k' hk' hl'=>by
    by_cases hkk:k=k'
    ·subst hkk;exact List.getElem?_set_self (by rw [dI.len];exact hks)
    ·rw [List.getElem?_set_ne hkk];refine hdn k' hk' ?_;have e5:(Lit.int .i64 (k':Int)).sameKey kl=false:=Maps.sameKey_ne λ e=>hkk (by rw [e3]at e;injection e with _ e;omega)
     simpa [e5]using hl'⟩,rfl⟩
   case measure=>rw [hrg2.left_eq,hrg.left_eq];exact hlt
theorem ZfO(W:World)(b:UInt8):(convert 99 9 (.slice (some ⟨W.heap.size,0,none⟩) 1 1)).run Tryz.prog (W.alloc (.cells #[.int .u8 (b.toNat:Int)] 5))=.ok (.string ⟨#[b]⟩) (W.alloc (.cells #[.int .u8 (b.toNat:Int)] 5)):=by
 have r:=run_convert_bytes_arg (P:=Tryz.prog) (W.alloc (.cells #[.int .u8 (b.toNat:Int)] 5)) 99 5 Tryz.underlying99 Tryz.underlying5 W.heap.size 0 1 1 [(b.toNat:Int)] rfl (λ j hj=>by
  obtain rfl:j=0:=by omega
  rw [Qc];rfl) 9 Tryz.underlying9
 rw [r];refine congrArg (λ x=>Result.ok (Value.string x) (W.alloc (.cells #[.int .u8 (b.toNat:Int)] 5))) ?_;show (⟨#[UInt8.ofNat (b.toNat:Int).toNat]⟩:ByteArray)=_;rw [Int.toNat_natCast,UInt8.ofNat_toNat]
def Z1(b:UInt8):ByteArray:=⟨(Lib.repeatL [b] 64).toArray⟩
theorem Zou(b:UInt8)(W:World):Fn 138 #[.string ⟨#[b]⟩,.int .i64 64] W (.string (Z1 b)) :=
 ⟨(Tryz.strings_Repeat ⟨#[b]⟩ 64 W (by omega) (by show 1*64<=_;omega)).mono λ e w' h=>h⟩
theorem ZbA(n:Nat)(hn:n<=4096)(b:UInt8)(W:World) :
  Calls Tryz.prog 154 #[.int .i64 n,.int .u8 b.toNat] W λ e w'=>∃ ad cap,e=.returned (.slice ad n cap)/\ZC 9 1 ad n cap (List.replicate n (.string (Z1 b))) w' W:=by
 have H:=Zou b;have hcv:∀ W:World,(convert 99 9 (.slice (some ⟨W.heap.size,0,none⟩) 1 1)).run Tryz.prog (W.alloc (.cells #[.int .u8 (b.toNat:Int)] 5))=.ok (.string ⟨#[b]⟩) (W.alloc (.cells #[.int .u8 (b.toNat:Int)] 5)):=λ W=>ZfO W b
 go_in
 go_wp2_with fail
 go_loopw [5,7] (λ v i wr=>∃(k:Nat)(ad2:Option Addr)(cap2:Nat),k<=n/\i=.int .i64 k/\v=.slice ad2 k cap2/\ZC 9 1 ad2 k cap2 (List.replicate k (.string (Z1 b))) wr W)
  (λ _ i _=>n-(intOf i).toNat)
 case atStart=>exact⟨0,none,0,Nat.zero_le _,rfl,rfl,ZC.nil _ _ _⟩
 case round =>
  obtain⟨k,ad2,cap2,hk,rfl,rfl,ho⟩:=hrel;obtain⟨g,rfl⟩:=ho.grw
  by_cases hlt:k<n
  ·go_wp2_with(first|(at_builtin;(with_reducible apply Y2);(·exact rfl);(·exact rfl);(·exact ii);(·exact ii);(·exact ii);(·exact rfl);(·decide);(·omega);intro gA capA gW hOwn)|(with_reducible refine Fn.go λ g=>?_));exact⟨⟨k+1,_,_,hlt,by go_num,rfl,by rw [List.replicate_succ'];exact hOwn⟩,by simp [intOf];omega⟩
  ·obtain rfl:n=k:=by omega
   go_wp2_with fail;go_ret;exact⟨_,_,rfl,ho⟩
theorem ZaX(b:UInt8):(Z1 b).size=64:=by
 show (Lib.repeatL [b] 64).toArray.size=64;rfl
theorem Zau{h:Hl}{d secs M mc C c:Nat}{b:UInt8}(hd:h d=some (.cells #[.slice (some ⟨M,0,none⟩) secs mc,.map (some C),.bool false,.int .i64 (-1)] 104))(r:YC 9 1 M mc (ZG (List.replicate secs (Z1 b))) h)
  (hc:h C=some (.map #[] c)) (hm:d≠M) (h2:secs<=4096):Qh d secs 0 (λ _=>Z1 b) h :=
 ⟨⟨h2,by omega⟩,M,mc,C,_,λ _=>none,hd,r,by simp,⟨#[],c,hc,⟨by simp,MapKept.stamped_empty c,by simp⟩,⟨λ k v e=>(by cases e),λ k _=>rfl,λ kl e=>(by cases e)⟩⟩,λ k b n c e=>(by cases e),λ k k' b n c n' c' e=>(by cases e),λ k b n c e=>(by cases e),hm,λ k hk _=>by simp [hk],λ k e=>absurd rfl e,λ k _=>ZaX b⟩
theorem ZhT{W w1:World}{h hp:Hl}{M cap secs:Nat}{b:UInt8}(hg:∃ g,w1=gr W g)(i1:Has w1 hp)(r1:YC 9 1 M cap (ZG (List.replicate secs (Z1 b))) hp)(o1:Qf W.heap.size hp)(h2:secs<=4096) :
  Zg W h (Qh (w1.heap.size+1) secs 0 (λ _=>Z1 b)) ((w1.alloc (.map #[] 0)).alloc (.cells #[.slice (some ⟨M,0,none⟩) secs cap,.map (some w1.heap.size),.bool false,.int .i64 (-1)] 104)):=by
 obtain⟨cur,q1,q2⟩:=r1;have hM:=i1.lt q1;have hz:∀ n o,hp n=some o->n<w1.heap.size:=λ n o e=>i1.lt e
 have hge:W.heap.size<=w1.heap.size:=by obtain⟨g,rfl⟩:=hg;rw [Yl];omega
 refine⟨((Xz.of_below (h:=h) (by obtain⟨g,rfl⟩:=hg;exact Yb W g)).alloc _).alloc _,(hp.put w1.heap.size (.map #[] 0)).put (w1.heap.size+1) (.cells #[.slice (some ⟨M,0,none⟩) secs cap,.map (some w1.heap.size),.bool false,.int .i64 (-1)] 104),⟨λ n o e=>?_⟩,λ n hn e=>?_,Zau (Hl.put_same ..) ⟨cur,?_,q2⟩ (c:=0) ?_ (by omega) h2⟩
 ·by_cases h1:n=w1.heap.size+1
  ·subst h1;rw [Hl.put_same]at e;cases e;have:=heap_alloc_new (w1.alloc (.map #[] 0)) (.cells #[.slice (some ⟨M,0,none⟩) secs cap,.map (some w1.heap.size),.bool false,.int .i64 (-1)] 104);simpa using this
  ·rw [Hl.put_other _ _ h1]at e
   by_cases h3:n=w1.heap.size
   ·subst h3;rw [Hl.put_same]at e;cases e;rw [Below.heap_alloc _ _ _ (by simp)];exact heap_alloc_new ..
   ·rw [Hl.put_other _ _ h3]at e;have:=hz n o e;rw [Below.heap_alloc _ _ _ (by simp;omega),Below.heap_alloc _ _ _ this];exact i1.get n o e
 ·rw [Hl.put_other _ _ (by omega),Hl.put_other _ _ (by omega)];exact o1.out n hn
 ·rw [Hl.put_other _ _ (by omega),Hl.put_other _ _ (by omega)];exact q1
 ·rw [Hl.put_other _ _ (by omega),Hl.put_same]
set_option maxRecDepth 512 in
theorem ZkG(secs:Nat)(h1:1<=secs)(h2:secs<=4096):Tu 89 #[.int .i64 secs] (λ _=>True) λ v h=>∃ d,v=.tuple #[.pointer (some ⟨d,0,none⟩),.int .i64 0]/\Qh d secs 0 (λ _=>Z1 0) h:=by
 intro W h hw hp;have hmm:∀ W:World,(Instr.makeMap 102 none).run Tryz.prog W=.ok (.map (some W.heap.size)) (W.alloc (.map #[] 0)):=λ W=>by kernel_rfl
 go_in
 go_wp2_with fail;refine(ZbA secs h2 0 _).mono ?_;rintro e w1 ⟨ad,cap,rfl,ho⟩;dsimp only;go_wp2_with fail;obtain⟨M,rfl⟩:=ho.some_ (.inr (by omega));go_ret2;have hl:(ZG (List.replicate secs (Z1 0))).length=secs:=by simp [ZG]
 have hfl:(ZG (List.replicate secs (Z1 0))).flatten=List.replicate secs (.string (Z1 0)):=by rw [Xe];simp [Xd]
 rw [<-hfl]at ho;obtain⟨hp,i1,r1,o1⟩:=Qy ho hl (QB _);exact⟨_,rfl,(ZhT ho.grw i1 r1 o1 h2).mono λ h' p=>⟨_,rfl,p⟩⟩
set_option maxRecDepth 512 in
theorem Zh5(d secs N:Nat)(f:Nat->ByteArray)(h1:1<=secs)(b:UInt8):Tu 90 #[.pointer (some ⟨d,0,none⟩),.int .u8 b.toNat] (Qh d secs N f) λ _=>Qh d secs 0 (λ _=>Z1 b):=by
 intro W h hw hp;obtain⟨⟨h2,_⟩,M,mc,C,ms,gm,i⟩:=hp;haveI:HAt h d _:=⟨_,i.dev⟩
 have hmm:∀ W:World,(Instr.makeMap 102 none).run Tryz.prog W=.ok (.map (some W.heap.size)) (W.alloc (.map #[] 0)):=λ W=>by kernel_rfl
 go_in
 go_wp2_with fail;refine(ZbA secs h2 b _).mono ?_;rintro e w1 ⟨ad,cap,rfl,ho⟩;dsimp only;obtain⟨g1,rfl⟩:=ho.grw;go_wp2_with fail;go_end0;obtain⟨M2,rfl⟩:=ho.some_ (.inr (by omega));have hl:(ZG (List.replicate secs (Z1 b))).length=secs:=by simp [ZG]
 have hfl:(ZG (List.replicate secs (Z1 b))).flatten=List.replicate secs (.string (Z1 b)):=by rw [Xe];simp [Xd]
 rw [<-hfl]at ho;obtain⟨hp,i1,⟨cur,q1,q2⟩,o1⟩:=Qy ho hl (QB _);have hd:=hw.lt i.dev;have hge:W.heap.size<=(gr W g1).heap.size:=by rw [Yl];omega
 have hM:W.heap.size<=M2:=by
  rcases Nat.lt_or_ge M2 W.heap.size with hh|hh
  ·rw [o1.out M2 hh]at q1;cases q1
  ·exact hh
 have hML:=i1.lt q1;have hnd:h d≠none:=by rw [i.dev];simp
 have hz:∀ n o,hp n=some o->W.heap.size<=n/\n<(gr W g1).heap.size:=λ n o e=>⟨by
  rcases Nat.lt_or_ge n W.heap.size with hh|hh
  ·rw [o1.out n hh]at e;cases e
  ·exact hh,i1.lt e⟩
 refine⟨_,rfl,((((((Xz.refl h W).gr g1).alloc _).setCell (.inr hnd) _).setCell (.inr hnd) _).setCell (.inr hnd) _).setCell (.inr hnd) _,(hp.put (gr W g1).heap.size (.map #[] 0)).put d (.cells #[.slice (some ⟨M2,0,none⟩) secs cap,.map (some (gr W g1).heap.size),.bool false,.int .i64 (-1)] 104),⟨λ n o e=>?_⟩,λ n hn e=>?_,Zau (Hl.put_same ..) ⟨cur,?_,q2⟩ (c:=0) ?_ (by omega) h2⟩
 ·by_cases h3:n=d
  ·subst h3;rw [Hl.put_same]at e;cases e;have e0:((gr W g1).alloc (.map #[] 0)).heap[n]?=_:=(Below.heap_alloc (gr W g1) (.map #[] 0) n (Nat.lt_of_lt_of_le hd hge)).trans ((XQ _ _ hd).trans (hw.get _ _ i.dev));exact heap_setCell (heap_setCell (heap_setCell (heap_setCell e0)))
  ·rw [Hl.put_other _ _ h3]at e
   iterate 4 rw [Below.heap_setCell _ _ _ _ (λ e=>h3 e)]
   by_cases h4:n=(gr W g1).heap.size
   ·subst h4;rw [Hl.put_same]at e;cases e;exact heap_alloc_new ..
   ·rw [Hl.put_other _ _ h4]at e;rw [Below.heap_alloc _ _ _ (hz n o e).2];exact i1.get n o e
 ·have hnd':n≠d:=λ e2=>hnd (e2▸e)
  rw [Hl.put_other _ _ hnd',Hl.put_other _ _ (by omega)];exact o1.out n hn
 ·rw [Hl.put_other _ _ (by omega),Hl.put_other _ _ (by omega)];exact q1
 ·rw [Hl.put_other _ _ (by omega),Hl.put_same]
def X9(s:ZO):SP:=λ h=>(s.ad=some ⟨s.blk,s.off,none⟩)/\∃ cs t,h s.blk=some (.cells cs t)/\∀ k,k<s.len->cs[s.off+k*2]?=some (.int .i64 (s.x k))/\cs[s.off+k*2+1]?=some (.int .i64 (s.y k))
theorem X9.gm{s:ZO}{h:Hl}(p:X9 s h)(W:World)[Has W h]:GM s W:=by
 obtain⟨e,cs,t,e1,e2⟩:=p;exact⟨λ _ _=>e,λ _ _=>(Has.old e1).h,λ k hk=>(Has.cell e1).trans (e2 k hk).1,λ k hk=>(Has.cell e1).trans (e2 k hk).2⟩
def Jd(b:Nat)(l:List Value):SP:=λ h=>∃ cs t,h b=some (.cells cs t)/\∀(k:Nat)(v:Value),l[k]?=some v->cs[k]?=some v
theorem Jd.cell{b:Nat}{l:List Value}{h:Hl}(p:Jd b l h)(W:World)[Has W h]{k:Nat}{v:Value}(e:l[k]?=some v):W.cell? ⟨b,k,none⟩=some v:=by
 obtain⟨cs,t,e1,e2⟩:=p;exact(Has.cell e1).trans (e2 k v e)
theorem Jd.old{b:Nat}{l:List Value}{h:Hl}(p:Jd b l h)(W:World)[Has W h]:Yc b W:=by
 obtain⟨cs,t,e1,e2⟩:=p;exact Has.old e1
structure VD where
 s:ZO
 secs:Nat
 lb:Nat
 lc:Nat
 ab:Nat
 ac:Nat
 ds:List Nat
 rg:Nat->Nat->ByteArray
 ro:Bool
abbrev VD.cs(V:VD):Array Value:=#[.slice V.s.ad V.s.len V.s.cap,.int .i64 V.secs,.slice (some ⟨V.lb,0,none⟩) V.ds.length V.lc,.slice (some ⟨V.ab,0,none⟩) V.ds.length V.ac]
abbrev VD.G(V:VD):Value:=.agg #[.slice V.s.ad V.s.len V.s.cap,.int .i64 V.secs]
abbrev VD.v(V:VD):Value:=.agg V.cs
structure VD.Ok(V:VD):Prop where
 g:ZT V.s V.secs
 n:(V.ds.length:Int)=YB V.s V.s.len
 le:V.ds.length<=100
def zT(V:VD)(N:Nat)(F:Nat->Nat->ByteArray):List SP:=(List.range V.ds.length).map λ i=>Qh (V.ds.getD i 0) V.secs N (F i)
def zb(ds:List Nat):List Value:=ds.map λ d=>.pointer (some ⟨d,0,none⟩)
def ZE(V:VD)(N:Nat)(F:Nat->Nat->ByteArray):SP:=λ h=>V.Ok/\star (zT V N F++[X9 V.s,Jd V.lb (zb V.ds),Jd V.ab (List.replicate V.ds.length (.bool false))]) h
class Zn(V:VD)(F:outParam (Nat->Nat->ByteArray))(W:World):Prop where
 i:∃ N,In (ZE V N F) W
instance Zkb(V:VD)(F:Nat->Nat->ByteArray)(W:World)(o:Obj)[k:Zn V F W]:Zn V F (W.alloc o):=by obtain⟨N,_⟩:=k.i;exact⟨N,ii⟩
instance Zm0(V:VD)(F:Nat->Nat->ByteArray)(W:World)(g:Gr)[k:Zn V F W]:Zn V F (gr W g):=by obtain⟨N,_⟩:=k.i;exact⟨N,ii⟩
theorem Qa{V:VD}{N:Nat}{F:Nat->Nat->ByteArray}{i d:Nat}(h:V.ds[i]?=some d)(r:List SP):(zT V N F++r)[i]?=some (Qh d V.secs N (F i)):=by
 have hi:=(List.getElem?_eq_some_iff.1 h).1;rw [List.getElem?_append_left (by simpa [zT]using hi)];rw [List.getElem?_eq_getElem hi]at h;cases h;simp [zT,hi]
theorem Zbi(V:VD)(N:Nat)(F:Nat->Nat->ByteArray):(zT V N F).length=V.ds.length:=by simp [zT]
theorem JU{V:VD}{N:Nat}{F:Nat->Nat->ByteArray}(r:List SP)(k:Nat):(zT V N F++r)[V.ds.length+k]?=r[k]?:=by
 rw [List.getElem?_append_right (by rw [Zbi];omega),Zbi,Nat.add_sub_cancel_left]
section
variable(V:VD)(F:Nat->Nat->ByteArray)(W:World)[D:Zn V F W]
theorem Zo:V.Ok/\GM V.s W/\Yc V.lb W/\Yc V.ab W/\(∀ k d,V.ds[k]?=some d->X3 d V.secs (F k) W/\W.cell? ⟨V.lb,k,none⟩=some (.pointer (some ⟨d,0,none⟩))/\W.cell? ⟨V.ab,k,none⟩=some (.bool false)):=by
 obtain⟨N,D⟩:=D.i;obtain⟨h,⟨ok,st⟩,hw⟩:=D.ex;obtain⟨h1,p1,s1⟩:=st.get (JU _ 0);obtain⟨h2,p2,s2⟩:=st.get (JU _ 1);obtain⟨h3,p3,s3⟩:=st.get (JU _ 2);haveI:=hw.sub s1;haveI:=hw.sub s2;haveI:=hw.sub s3;refine⟨ok,p1.gm W,p2.old W,p3.old W,λ k d e=>⟨⟨N,In.of_star hw st (Qa e _)⟩,p2.cell W (by simp [zb,e]),p3.cell W ?_⟩⟩;have hi:=(List.getElem?_eq_some_iff.1 e).1;simp [hi]
include D in
theorem Qq:GM V.s W:=(Zo V F W).2.1
include D in
theorem Ue:Ky V.s V.secs:=⟨(Zo V F W).1.g⟩
include D in
set_option maxRecDepth 512 in
theorem qC(k:Nat)(hk:k<V.ds.length):Fn 110 #[V.v,.int .i64 k] W (.bool true):=by
 refine⟨?_⟩;obtain⟨ok,gm,ol,oa,hd⟩:=Zo V F W;obtain⟨d,e⟩:∃ d,V.ds[k]?=some d:=⟨_,List.getElem?_eq_getElem hk⟩
 obtain⟨id,c1,c2⟩:=hd k d e;clear hd
 go_in
 go_wp2_with(with_reducible refine Fn.go λ g=>?_);go_ret;exact ZM.mk rfl grown
include D in
set_option maxRecDepth 512 in
theorem Zex(b:Nat)(d:Nat)(hd:d∈V.ds)[Yc b W](c1:W.cell? ⟨b,1,none⟩=some (.int .i64 V.secs)):Calls Tryz.prog 125 #[.pointer (some ⟨d,0,none⟩),.pointer (some ⟨b,0,none⟩)] W (ZM (.bool false) W):=by
 obtain⟨k,e⟩:=List.getElem?_of_mem hd;obtain⟨id,_⟩:=(Zo V F W).2.2.2.2 k d e
 go_in
 go_wp2_with fail;refine plZ (.q [0,1,2,3,4,5,6] .d) ?_;simp only [Zk.run,pick,gZ,gS,gA,gN]
 (repeat go_big_quiet_step (exact qZ));refine nZ ?_;rintro _ ⟨g,rfl⟩
 go_wp2_with fail;go_ret;exact ZM.mk rfl grown
include D in
set_option maxRecDepth 512 in
theorem YZ:Fn 69 #[V.v] W (.bool true):=by
 refine⟨?_⟩;haveI:=Qq V F W;haveI:=Ue V F W;obtain⟨ok,_,ol,oa,hd⟩:=Zo V F W;have DV:∀ W':World,[GM V.s W']->Fn 42 #[V.G] W' (.int .i64 V.ds.length):=λ W' _=>by rw [ok.n];infer_instance
 have CF:∀(W':World)(b:Nat),[Zn V F W']->[Yc b W']->W'.cell? ⟨b,1,none⟩=some (.int .i64 V.secs)->Fn 124 #[.slice (some ⟨V.lb,0,none⟩) V.ds.length V.lc,.func (.func 125) #[] #[.pointer (some ⟨b,0,none⟩)]] W' (.bool false):=λ W' b _ _ c1=>by
  have e:((zb V.ds).map λ v=>[v]).any (λ _=>false)=false:=by simp
  rw [<-e];obtain⟨_,_,ol,oa,hd⟩:=Zo V F W'
  haveI:Zy 1 (some ⟨V.lb,0,none⟩) V.ds.length V.lc ((zb V.ds).map λ v=>[v]) W':=⟨by simp [zb],λ k x hx=>by
   simp only [zb,List.map_map,List.getElem?_map,Option.map_eq_some_iff]at hx;obtain⟨d,h1,rfl⟩:=hx;refine⟨V.lb,0,rfl,ol,λ j v hj=>?_⟩;cases j with
   |zero=>cases hj;simpa using(hd k d h1).2.1
   |succ j=>simp at hj⟩
  exact cfD _ _ _ _ W' (by have:=ok.le;omega) _ (by kernel_rfl) _ _ (λ v hv g=>by
   simp only [zb,List.map_map,List.mem_map,Function.comp]at hv;obtain⟨d,hd,e⟩:=hv;cases e
   exact Zex V F _ b d hd (by simpa [go_sem]using c1)) (by simp)
 clear hd
 go_in
 go_wp2_with fail;refine plZ (.q [0,1,2,3,4,5,6,7,8,9,10,11,12,13,14,15,16,17,18,19,20,21] .d) ?_;simp only [Zk.run,pick,gZ,gS,gA,gN]
 (repeat go_big_quiet_step (exact qZ));refine nZ ?_;rintro _ ⟨g,rfl⟩
 go_wp2_with fail;refine @Fn.go _ _ _ _ _ (CF _ _ (by simp [go_sem])) λ g2=>?_
 dsimp only;go_wp2_with fail;go_ret;exact ZM.mk rfl grown
omit D in
theorem ZgY{V:VD}(ok:V.Ok){grp at_ z:Int}(hm:XG V.s V.secs grp at_ z=true){k:Nat}{c:YG}(e:(Zz V.s grp at_ z)[k]?=some c):∃ d a:Nat,c.dev=d/\c.at_=a/\d<V.ds.length/\a<V.secs:=by
 haveI:Ky V.s V.secs:=⟨ok.g⟩
 obtain⟨⟨g0,g1⟩,⟨z0,z1⟩,a0,a1⟩:=Xg hm;obtain⟨g,rfl⟩:=Int.eq_ofNat_of_zero_le g0;obtain⟨a,rfl⟩:=Int.eq_ofNat_of_zero_le a0;obtain⟨n,rfl⟩:=Int.eq_ofNat_of_zero_le (show 0<=z by omega);have hg:g<V.s.len:=by omega
 have hz:1<=n/\n<=4:=by omega
 obtain⟨p1,p2,p3,_⟩:=Xl ok.g hg hz e;have h0:=XA ok.g g (by omega);have h1:=Jr ok.g V.s.len g hg (Nat.le_refl _)
 have h2:=Zij ok.g hg hz (by
  simp only [XG,Bool.and_eq_true,decide_eq_true_eq]at hm;have h3:=hm.2.2;rw [Q8,Xu,if_pos ⟨g0,g1⟩,if_pos ⟨g0,g1,z0,z1⟩,Int.toNat_natCast]at h3
  omega) e
 rw [<-ok.n]at h1;exact⟨c.dev.toNat,c.at_.toNat,by omega,by omega,by omega,by omega⟩
include D in
theorem ZcS(grp at_:Nat)(z:Nat)(hm:XG V.s V.secs grp at_ z=true) :
  Calls Tryz.prog 342 #[V.v,.agg #[.int .i64 grp,.int .i64 at_],.int .i64 z] W λ e w' =>
   ∃ ad,e=.returned (.tuple #[.slice ad (Zz V.s grp at_ z).length (Zz V.s grp at_ z).length,.int .i64 0])/\ZC 9 1 ad (Zz V.s grp at_ z).length (Zz V.s grp at_ z).length (Xd ((Zz V.s grp at_ z).map λ c=>F c.dev.toNat c.at_.toNat)) w' W:=by
 haveI:=Ue V F W;have OA:∀ w,GM V.s w->_:=λ w (_:GM V.s w)=>kR V.s V.secs grp at_ z w
 have HR:∀ W':World,[Zn V F W']->Fn 69 #[V.v] W' (.bool true):=λ W' _=>YZ V F W'
 have hm':=Lib.hid hm;have hin:∀(k:Nat)(c:YG),(Zz V.s grp at_ z)[k]?=some c->_:=λ k c e=>ZgY (Zo V F W).1 hm e
 have hln:(Zz V.s grp at_ z).length<=32:=by
  obtain⟨⟨g0,g1⟩,⟨z0,z1⟩,a0,a1⟩:=Xg hm;exact(JX (Zo V F W).1.g (by omega) (by omega)).2
 have HH:∀(W':World)(k:Nat),k<V.ds.length->[Zn V F W']->Fn 110 #[V.v,.int .i64 k] W' (.bool true):=λ W' k hk _=>qC V F W' k hk
 generalize hL:Zz V.s grp at_ z=L at *
 generalize hn:L.length=n at *
 clear hm hL
 go_in
 go_wp2_with(with_reducible refine Fn.go λ g=>?_);refine(OA _ (by have:=λ w (_:Zn V F w)=>Qq V F w;exact this _ ii)).mono ?_;rintro e V0 ⟨hy,hno⟩;obtain⟨ad2,cap2,rfl,o2⟩:=hy hm'.out;clear hy hno;have R2:=ZC.rd (xs:=Ym L) (W1:=_) (e:=370) (by rw [Qk];exact o2) (by simpa [Ym]using hn) (by simp [Ym,YG.cl]);obtain⟨g2,hV⟩:=o2.grw;clear o2;haveI:Zn V F V0:=by rw [hV];infer_instance
 have o3:Yc W.heap.size V0:=by rw [hV];infer_instance
 have hB:∃ g,V0=gr W g:=Zf (by rw [hV];(repeat' (first|(with_reducible exact Below.refl _ _)|(with_reducible refine Xc ?_ _)|(with_reducible refine Z5 ?_ _)|(with_reducible refine Below.setCell ?_ ?_ _)|(with_reducible refine Below.drew ?_)|(simp [go_sem];done)|(simp [go_sem];omega))));have c3:∀ j:Nat,V0.cell? ⟨W.heap.size,j,none⟩=V.cs[j]?:=λ j=>by rw [hV];simp [go_sem]
 clear hV;dsimp only;go_wp2_with((with_reducible apply YP);(·exact rfl);(·exact rfl);(·omega);intro gM hMk);obtain⟨f,hf⟩:∃ f:Nat->ByteArray,f=λ k=>F (L.getD k default).dev.toNat (L.getD k default).at_.toNat:=⟨_,rfl⟩
 have hz0:Kn n f (λ _=>⟨#[]⟩) 0=List.replicate n ⟨#[]⟩:=by rw [kQ];exact List.ext_getElem (by simp) (by simp)
 go_loopw [32] (λ i wr=>∃ k:Nat,k<=n/\i=.int .i64 k/\ZC 9 1 (some ⟨V0.heap.size,0,none⟩) n n (Xd (Kn n f (λ _=>⟨#[]⟩) k)) wr V0)
  (λ i _=>n-(intOf i).toNat)
 case atStart=>exact⟨0,Nat.zero_le _,rfl,by rw [hz0];simpa [Xd]using hMk⟩
 case round =>
  clear hMk;obtain⟨k,hk,rfl,ho⟩:=hrel
  by_cases hlt:k<n
  ·obtain⟨c,hc⟩:∃ c,L[k]?=some c:=⟨_,List.getElem?_eq_getElem (by omega)⟩
   obtain⟨d,a,hd,ha,hd',ha'⟩:=hin k c hc;have R2':Zy 4 ad2 n cap2 (Ym L) wr:=by obtain⟨g,rfl⟩:=ho.grw;infer_instance
   obtain⟨b,o,rfl,hb,c0,c1,c2,c4⟩:=jK R2' hc;rw [hd]at c0;rw [ha]at c1;have hfk:f k=F d a:=by rw [hf];simp [List.getD_eq_getElem?_getD,hc,hd,ha]
   haveI:Zn V F wr:=by obtain⟨g,rfl⟩:=ho.grw;infer_instance
   have o3':Yc W.heap.size wr:=by obtain⟨g,rfl⟩:=ho.grw;infer_instance
   have c3':∀ j:Nat,wr.cell? ⟨W.heap.size,j,none⟩=V.cs[j]?:=λ j=>by obtain⟨g,rfl⟩:=ho.grw;simp [go_sem,c3]
   have HH':∀(W':World),[Zn V F W']->Fn 110 #[V.v,.int .i64 d] W' (.bool true):=λ W' _=>qC V F W' d hd'
   obtain⟨dd,hdd⟩:∃ dd,V.ds[d]?=some dd:=⟨_,List.getElem?_eq_getElem hd'⟩
   have HD:∀ W':World,[Zn V F W']->W'.cell? ⟨V.lb,d,none⟩=some (.pointer (some ⟨dd,0,none⟩)):=λ W' _=>((Zo V F W').2.2.2.2 d dd hdd).2.1
   have HX:∀ W':World,[Zn V F W']->Fn 135 #[.pointer (some ⟨dd,0,none⟩),.int .i64 a] W' (.tuple #[.string (F d a),.int .i64 0]):=λ W' _=>by
    haveI:=((Zo V F W').2.2.2.2 d dd hdd).1;exact Zbs dd V.secs (F d) W' a ha'
   have hset:(Xd (Kn n f (λ _=>⟨#[]⟩) k)).set k (.string (F d a))=Xd (Kn n f (λ _=>⟨#[]⟩) (k+1)):=by rw [<-Vp,hfk];exact List.map_set.symm
   obtain⟨f1,f2,f3⟩:=ho.facts;have hb0:=f1 k (.string ⟨#[]⟩) (by simp [Xd,zw hlt]);have hf0:∀ W',ZC 9 1 (some ⟨V0.heap.size,0,none⟩) n n (Xd (Kn n f (λ _=>⟨#[]⟩) k)) W' V0->W'.frozen? ⟨V0.heap.size,k,none⟩=false:=λ W' h=>h.facts.2.1 k
   have ol:=(Zo V F wr).2.2.1;have Hs:=Lib.hid hset;clear hc f1 f2 hset hin hd ha hfk;go_wp2_with(with_reducible refine Fn.go λ g=>?_);refine plZ (.q [0,1,2,3,4,5,6,7,8,9,10,11,12,14] (.f [13] (.x [15] .d))) ?_;simp only [Zk.run,pick,gZ,gS,gA,gN]
   (repeat go_big_quiet_step (exact qZ));refine nZ ?_
   (repeat go_big_quiet_step (exact qZ));refine nZ ?_
   rintro V2 ⟨g4,hV⟩;have ho2:ZC 9 1 (some ⟨V0.heap.size,0,none⟩) n n (Xd (Kn n f (λ _=>⟨#[]⟩) k)) V2 V0:=by rw [hV];infer_instance
   have hb2:V2.cell? ⟨V0.heap.size,k,none⟩=some (.string ⟨#[]⟩):=by rw [hV];simp [go_sem,hb0]
   have hf2:=hf0 _ ho2;have hput:=ho2.put k (.string (F d a));rw [Hs.out]at hput;have o2':=ho2.facts.2.2;clear hV ho2 ho;have Hp:=Lib.hid hput;clear hput;go_wp2_with fail;rintro _ ⟨g6,rfl⟩;haveI:=Hp.out;go_wp2_with fail;exact⟨⟨k+1,hlt,by go_num,ii⟩,by simp [intOf];omega⟩
  ·obtain rfl:n=k:=by omega
   go_wp2_with fail;go_ret2;refine⟨_,rfl,?_⟩
   have e:L.map (λ c=>F c.dev.toNat c.at_.toNat)=(List.range n).map f:=by
    rw [hf,<- hn];exact List.ext_getElem (by simp) (λ i h1 h2=>by simp at h1 h2;simp [List.getD_eq_getElem?_getD,h1])
   rw [e,<- VO (z:=λ _=>⟨#[]⟩)];exact ho.lower hB
end
end Go.Proofs.YtlfjdjndhcmliaaGreatDoor
