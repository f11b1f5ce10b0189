/- WholeOld, part 11. -/
import Derived.Test.YtlfjdjndhcmliaaGreatDoorA10
import Derived.Test.YtlfjdjndhcmliaaGreatDoorA01
import Derived.Shelf.RegionOpen
set_option maxRecDepth 100000
set_option maxHeartbeats 4000000
set_option linter.all false
namespace Go.Proofs.YtlfjdjndhcmliaaGreatDoor
open Go.RowKit Go.Sort
def Abides(B:Nat)(J:World->Prop):Prop:=∀ W W',J W->Below B W W'->J W'
def ZgR(P:Program)(g:Nat)(lb:Array Value)(x:Array Value)(w:World):Prop :=
 ∀(l:Nat)(J Jx:World->Prop)(W:World),Below w.heap.size w W->Abides W.heap.size J->Abides W.heap.size Jx ->
  (∀ m W1,J W1->YieldAt Fence.wide m P l x W1 λ e W'=>e=.returned (.bool false)/\Jx W')->J W ->
  Calls P g (#[.func (.yield l) #[] #[]]++lb) W λ e W'=>(∃ v,e=.returned v)/\Jx W'
attribute [local go_sem] Oper.semAt_some
def qp(l:List ByteArray):ByteArray:=⟨(l.flatMap λ s=>s.data.toList).toArray⟩
theorem Zac:∀ l:List (List UInt8),Lib.join l []=l.flatten
 | []=>rfl
 |a::l=>by rw [Lib.join_cons,List.flatten_cons];simp [Lib.joinTail]
theorem Za6:∀ l:List ByteArray,(∀ s∈l,s.size=64)->(l.flatMap λ s=>s.data.toList).length<=64*l.length
 | [],_=>by simp
 |a::l,h=>by
  have h1:=h a (by simp);have h2:=Za6 l λ s hs=>h s (by simp [hs])
  rw [List.flatMap_cons,List.length_append,List.length_cons,Zi];omega
section
variable(ad:Option Addr)(n cap:Nat)(l:List ByteArray)(W:World)[h:Zy 1 ad n cap (ZG l) W]
theorem Za7(h0:0<n)(hn:n<=1000000)(hl:∀ s∈l,s.size=64):Fn 344 #[.slice ad n cap,.string ⟨#[]⟩] W (.bool false):=by
 have hlen:l.length=n:=by have:=h.len;simpa [ZG]using this
 obtain⟨b,o,rfl,hb,_⟩:=h.cells 0 _ (List.getElem?_eq_getElem (by rw [h.len];exact h0));refine⟨(Tryz.slices_Contains_string b o n cap l ⟨#[]⟩ W (by omega) (by omega) λ j hj=>?_).mono ?_⟩
 ·obtain⟨b',o',e,_,hc⟩:=h.cells j [.string l[j]] (by simp [ZG,hj]);cases e;have:=hc 0 _ rfl;rw [Nat.mul_one,Nat.add_zero]at this;rw [this,List.getD_eq_getElem?_getD,List.getElem?_eq_getElem hj];rfl
 ·rintro e w' ⟨rfl,rfl⟩;refine⟨?_,Below.refl _ _⟩
  congr 2
  have:∀ zs:List ByteArray,(∀ s∈zs,s.size=64)->Lib.containsS zs ⟨#[]⟩=false:=by
   intro zs hz;rw [<-Bool.not_eq_true,Lib.containsS_iff];intro hm;have:=hz _ hm;cases this
  exact this _ λ s hs=>hl s (List.mem_of_mem_take hs)
theorem Zjh(h0:0<n)(hn:n<=1000)(hcap:n<=cap)(hl:∀ s∈l,s.size=64):Fn 356 #[.slice ad n cap,.string ⟨#[]⟩] W (.string (qp l)):=by
 have hlen:l.length=n:=by have:=h.len;simpa [ZG]using this
 obtain⟨b,o,rfl,hb,_⟩:=h.cells 0 _ (List.getElem?_eq_getElem (by rw [h.len];exact h0));have e1:Lib.join (l.map (·.data.toList)) []=l.flatMap λ s=>s.data.toList:=by rw [Zac];rfl
 have hz:=Za6 l hl
 have:=Tryz.strings_Join b o cap l ⟨#[]⟩ W (λ j x hx=>by
  obtain⟨b',o',e,_,hc⟩:=h.cells j [.string x] (by simp [ZG,hx]);cases e;have:=hc 0 _ rfl
  rwa [Nat.mul_one,Nat.add_zero]at this) hb.h (by omega) (by omega) (by
   show (Lib.join (l.map (·.data.toList)) []).length<=_
   rw [e1];omega)
 rw [hlen]at this;refine⟨this.mono ?_⟩;rintro e w' ⟨rfl,hb⟩;refine⟨?_,hb⟩;rw [qp,<- e1]
end
theorem Zy.take{z:Nat}{ad:Option Addr}{n cap:Nat}{xs:List (List Value)}{W:World}(r:Zy z ad n cap xs W)(m:Nat)(hm:m<=n)(c:Nat):Zy z ad m c (xs.take m) W:=⟨by rw [List.length_take,r.len];omega,λ k x hx=>r.cells k x (by rw [List.getElem?_take]at hx;split at hx;exact hx;cases hx)⟩
instance Zn1(z:Nat)(ad:Option Addr)(n cap:Nat)(xs:List (List Value))(W:World)[h:Zy z ad n cap xs W]:Zy z ad n cap xs W.drew:=⟨h.len,λ k x e=>by
 obtain⟨b,o,e1,e2,e3⟩:=h.cells k x e
 exact⟨b,o,e1,ii,e3⟩⟩
theorem qz{o:Oper}{n:Nat}{a:Act}{next:Act->World->Prop}{Q:Exit->Act->World->Prop}{l:Nat}{args:Array Value}{W:World}{v:Value}{R:World->Prop}(h:YieldAt Fence.wide (n-1) Tryz.prog l args W λ e W'=>e=.returned v/\R W')(k:∀ W',R W'->next (a.put o.dst v) W') :
  o.uponIn Fence.wide n Tryz.prog a next Q ((Instr.yield l args).run Tryz.prog W):=by
 obtain⟨fn,tmps,assign,body,hy,hYR⟩:=h;rw [hy,Oper.uponIn_round];refine⟨λ h=>(by simp [Fence.wide]at h),hYR.mono ?_⟩;rintro _ W3 ⟨rfl,hr⟩;exact k W3 hr
theorem Zb2(adl:Option Addr)(n capl:Nat)(L:List YG)(adg:Option Addr)(capg:Nat)(G:List ByteArray)(z:Nat)(c0:YG)(l:Nat)(J Jx:World->Prop)(B:Nat)(W:World)[h1:Zy 4 adl n capl (Ym (c0::L)) W][h2:Zy 1 adg n capg (ZG G) W]
  (hz:1<=z/\z<=4/\z<=n) (hn:n<=100) (hc:n<=capg) (hG:∀ s∈G,s.size=64) (hB:B<=W.heap.size) (hJ:Abides B J)
  (hY:∀ m W1,J W1->YieldAt Fence.wide m Tryz.prog l #[.int .i64 c0.dev,.string (qp (G.take z))] W1 λ e W'=>e=.returned (.bool false)/\Jx W') (h0:J W) :
  Calls Tryz.prog 350 #[.slice adl n capl,.int .i64 z,.slice adg n capg,.func (.yield l) #[] #[]] W λ e W'=>(∃ v,e=.returned v)/\Jx W':=by
 obtain⟨hz1,hz4,hzn⟩:=hz;have hlen2:G.length=n:=by have:=h2.len;simpa [ZG]using this
 obtain⟨b,o,rfl,hb,k0,k1,k2,k3⟩:=jK h1 (k:=0) rfl;rw [Nat.zero_mul,Nat.add_zero]at k0 k1 k2 k3;obtain⟨b',o',rfl,hb',hcc⟩:=h2.cells 0 _ (List.getElem?_eq_getElem (by rw [h2.len];omega));clear hcc;have r2:=h2.take z hzn capg;have e2:(ZG G).take z=ZG (G.take z):=by simp [ZG,List.map_take]
 rw [e2]at r2;have hGt:∀ s∈G.take z,s.size=64:=λ s hs=>hG s (List.mem_of_mem_take hs)
 haveI cf:∀ W':World,[Zy 1 (some ⟨b',o',none⟩) z capg (ZG (G.take z)) W']->Fn 344 #[.slice (some ⟨b',o',none⟩) z capg,.string ⟨#[]⟩] W' (.bool false):=λ W' _=>Za7 _ z capg _ W' (by omega) (by omega) hGt
 haveI jf:∀ W':World,[Zy 1 (some ⟨b',o',none⟩) z capg (ZG (G.take z)) W']->Fn 356 #[.slice (some ⟨b',o',none⟩) z capg,.string ⟨#[]⟩] W' (.string (qp (G.take z))):=λ W' _=>Zjh _ z capg _ W' (by omega) (by omega) (by omega) hGt
 have hY':∀ m g,YieldAt Fence.wide m Tryz.prog l #[.int .i64 c0.dev,.string (qp (G.take z))] (gr W g) λ e W'=>e=.returned (.bool false)/\Jx W':=λ m g=>hY m _ (hJ _ _ h0 (Jz (Below.refl _ _) hB _))
 generalize qp (G.take z)=t at *
 generalize ZG (G.take z)=GT at *
 clear e2 hGt hY;refine(callsIn_wide (n:=3)).1 ?_;refine callsIn_of_wp Tryz.func350 rfl trivial ?_ rfl;simp only [Tryz.ntmps350,List.size_toArray,List.length_cons,List.length_nil,Nat.reduceAdd,Nat.reduceSub,Array.replicate_succ,Array.replicate_zero,List.push_toArray,List.append_toArray,List.nil_append,List.cons_append]
 gi_wp2
 refine wpIn_loop_once ?_
 gi_wp2
 clear h1 h2 k1 k2 k3 hlen2 hG hJ h0 hB;have mixed:Tryz.prog.follows .mixedOrders=true:=by kernel_rfl
 gi_region_with_o (first|(refine⟨trivial,?_⟩;refine callsIn_wide.2 ?_;with_reducible refine Fn.go λ g=>?_)|(with_reducible refine qz (hY' _ _) λ W3 hJx3=>?_))
 all_goals
  gi_wp2
  refine bodyPost_ret (results_none rfl _ _ _) rfl ?_;exact⟨⟨_,rfl⟩,hJx3⟩
end Go.Proofs.YtlfjdjndhcmliaaGreatDoor
