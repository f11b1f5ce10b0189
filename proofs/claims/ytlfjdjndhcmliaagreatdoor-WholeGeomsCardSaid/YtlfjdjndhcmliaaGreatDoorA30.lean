/- WholeGeoms, part 30. -/
import Derived.Test.YtlfjdjndhcmliaaGreatDoorA29
set_option maxRecDepth 100000
set_option maxHeartbeats 4000000
set_option linter.all false
namespace Go.Proofs.YtlfjdjndhcmliaaGreatDoor
open Go.RowKit Go.Sort
theorem rcount_fn (a:AcV) (W:World):Fn 51 #[.agg a.cs] W (.int .i64 (cntN a.n)):=by
 refine ⟨?_⟩
 have e:wrap64 (wrap64 ((imin (imax a.n 0) 600).tdiv 4)*4)=((cntN a.n:Nat):Int):=by
  have e1:imin (imax a.n 0) 600=min (max a.n 0) 600:=by unfold imin imax;split <;> split <;> omega
  unfold cntN
  obtain ⟨m,hm⟩:∃ m:Nat,min (max a.n 0) 600=(m:Int):=⟨(min (max a.n 0) 600).toNat,by omega⟩
  have hm6:m<=600:=by omega
  rw [e1,hm,Int.toNat_natCast,Int.tdiv_eq_ediv_of_nonneg (by omega)]
  unfold wrap64
  omega
 have E:=Lib.hid e
 clear e
 unfold AcV.cs
 go_enter Tryz.func51,Tryz.ntmps51
 go_wp2_with fail
 go_ret
 exact Ret.mk (congrArg (Value.int .i64) E.out) grown
def FndR (l:List (Int × Objs)) (id r:Int):Prop:=(∃ (i:Nat) (T:Objs),r=i/\l[i]?=some (id,T)/\∀ j y,j < i->l[j]?=some y->y.1≠id)\/(r=-1/\∀ y∈l,y.1≠id)
theorem rfind_fn (H:Nat->Bool) (X:Nat->ByteArray) (bv:Value) (ad:Option Addr) (cap:Nat) (l:List (Int × Objs)) (id r:Int) (hr:FndR l id r) (hl:l.length<=1000) (W:World) [R:RdS 1 ad l.length cap (idC l) W] :
  Fn 49 #[.agg (wlC H X (.slice ad l.length cap) bv),.int .i64 id] W (.int .i64 r):=by
 refine ⟨?_⟩
 have HR:=Lib.hid hr
 clear hr
 haveI BZ:=Bt.zero W
 go_enter Tryz.func49,Tryz.ntmps49
 go_wp2_with fail
 go_loopw [5] (λ iv wr=>∃ k:Nat,k<=l.length/\Hid (∀ j y,j < k->l[j]?=some y->y.1≠id)/\iv=.int .i64 k/\Bt W (λ _=>none) [BlkP W.heap.size (wlC H X (.slice ad l.length cap) bv) 39] wr) (λ iv _=>l.length - (intOf iv).toNat)
 case atStart=>exact ⟨0,Nat.zero_le _,Lib.hid (λ j _ hj=>absurd hj (Nat.not_lt_zero j)),rfl,ii⟩
 case round =>
  clear BZ
  obtain ⟨k,hk,hn,rfl,B⟩:=hrel
  by_cases hlt:k < l.length
  ·obtain ⟨x,hx⟩:∃ x,l[k]?=some x:=⟨_,List.getElem?_eq_getElem hlt⟩
   obtain ⟨g,og,rfl,hb,hc⟩:=(B.rds0 R).cells k [.int .i64 x.1] (by simp [idC,hx])
   have c0:=hc 0 _ rfl
   rw [Nat.add_zero,Nat.mul_one] at c0
   by_cases he:x.1=id
   ·have hrk:r=k:=by
     rcases HR.out with ⟨i,T,rfl,h1,h2⟩ | ⟨_,h2⟩
     ·rcases Nat.lt_trichotomy i k with h3 | h3 | h3
      ·exact absurd rfl (hn.out i _ h3 h1)
      ·rw [h3]
      ·exact absurd he (h2 k x h3 hx)
     ·exact absurd he (h2 x (List.mem_of_getElem? hx))
    have hq:(x.1 == id)=true:=by rw [beq_iff_eq];exact he
    have HK:=Lib.hid hrk
    clear hrk he hx hc R
    go_wp2_with fail
    go_ret
    exact ⟨by rw [HK.out];rfl,B.below0⟩
   ·have hq:(x.1 == id)=false:=by rw [<-Bool.not_eq_true,beq_iff_eq];exact he
    have hn2:Hid (∀ j y,j < k+1->l[j]?=some y->y.1≠id):=Lib.hid λ j y hj e=>by
     rcases Nat.lt_or_eq_of_le (Nat.le_of_lt_succ hj) with h | rfl
     ·exact hn.out j y h e
     ·rw [hx] at e;cases e;exact he
    clear he hx hc R
    go_wp2_with fail
    exact ⟨⟨k+1,hlt,hn2,by go_num,ii⟩,by simp [intOf];omega⟩
  ·obtain rfl:k=l.length:=by omega
   have hrk:r=-1:=by
    rcases HR.out with ⟨i,T,rfl,h1,h2⟩ | ⟨h1,_⟩
    ·exact absurd rfl (hn.out i _ (List.getElem?_eq_some_iff.1 h1).1 h1)
    ·exact h1
   have HK:=Lib.hid hrk
   clear hrk
   go_wp2_with fail
   go_ret
   exact ⟨by rw [HK.out];rfl,B.below0⟩
theorem requal_fn (ad ad2:Option Addr) (n cap cap2:Nat) (L:List (List Value)) (hL:∀ x∈L,∃ i:Int,x=[.int .i64 i]) (hn:n<=1000) (W:World) [R:RdS 1 ad n cap L W] [R2:RdS 1 ad2 n cap2 L W] :
  Fn 16 #[.slice ad n cap,.slice ad2 n cap2] W (.bool true):=by
 refine ⟨?_⟩
 go_enter Tryz.func16,Tryz.ntmps16
 go_wp2_with fail
 go_loopw [5] (λ iv wr=>∃ k:Nat,k<=n/\iv=.int .i64 k/\∃ g,wr=gr W g) (λ iv _=>n - (intOf iv).toNat)
 case atStart=>exact ⟨0,Nat.zero_le _,rfl,ex_gr W⟩
 case round =>
  obtain ⟨k,hk,rfl,g,rfl⟩:=hrel
  by_cases hlt:k < n
  ·obtain ⟨x,hx⟩:∃ x,L[k]?=some x:=⟨_,List.getElem?_eq_getElem (by rw [R.len];exact hlt)⟩
   obtain ⟨i,rfl⟩:=hL x (List.mem_of_getElem? hx)
   obtain ⟨b1,o1,rfl,hb1,hc1⟩:=R.cells k _ hx
   obtain ⟨b2,o2,rfl,hb2,hc2⟩:=R2.cells k _ hx
   have c1:=hc1 0 _ rfl
   have c2:=hc2 0 _ rfl
   rw [Nat.add_zero,Nat.mul_one] at c1 c2
   clear hc1 hc2 hx
   go_wp2_with fail
   (first | (with_reducible refine pl2 (.q [0,1,2,3,4,5,6,7,8] .d) ?_) | refine pl1 (.q [0,1,2,3,4,5,6,7,8] .d) ?_);simp only [Plan.run,pick,gZ,gS,gA,gN]
   (repeat go_big_quiet_step (exact qZ));refine nZ ?_
   rintro _ ⟨g2,rfl⟩
   go_wp2_with fail
   exact ⟨⟨k+1,hlt,by go_num,_,rfl⟩,by simp [intOf];omega⟩
  ·obtain rfl:k=n:=by omega
   go_wp2_with fail
   go_ret
   exact Ret.mk rfl grown
def idsK (T:Objs) (k:Nat):List Nat:=(List.range k).filter λ j=>(T j).isSome
theorem idsK_none {T:Objs} {k:Nat} (h:T k=none):idsK T (k+1)=idsK T k:=by simp [idsK,List.range_succ,List.filter_append,h]
theorem idsK_some {T:Objs} {k:Nat} {t:ByteArray} (h:T k=some t):idsK T (k+1)=idsK T k++[k]:=by simp [idsK,List.range_succ,List.filter_append,h]
theorem idsK_len (T:Objs) (k:Nat):(idsK T k).length<=k:=by
 have:=List.length_filter_le (λ j=>(T j).isSome) (List.range k)
 rwa [List.length_range] at this
section
variable {V:VD} {pb txg:Nat} {root:Nd} {C:Nat} {K0:KS} {wd:Wd}
theorem lset_tq (ht:txg+1<=4294967295) (snap:Int) (T:Objs) (hT:DirIs wd snap T) :
  Tq 15 #[pV pb,.int .i64 snap,.agg (seC (hasO T) (txtO T))] (PoS V pb txg root C K0 wd) λ v q=>v=.bool true/\q=PoS V pb txg root C K0 wd:=by
 have RD:=λ k hk=>oread_tq (V:=V) (pb:=pb) (root:=root) (C:=C) (K0:=K0) ht snap T hT k hk
 have SZ:=λ k hk=>osize_tq (V:=V) (pb:=pb) (root:=root) (C:=C) (K0:=K0) ht snap T hT k hk
 have LS:=olist_tq (V:=V) (pb:=pb) (root:=root) (C:=C) (K0:=K0) ht snap T hT
 clear hT
 refine Tq.of λ W h B=>?_
 go_enter Tryz.func15,Tryz.ntmps15
 go_wp2_with fail
 refine wp_world (W:=W) (h:=h) (l:=[BlkP W.heap.size (seC (hasO T) (txtO T)) 35,PoS V pb txg root C K0 wd]) ii ?_
 intro w1 B1
 have B2:Bt W h [BlkP W.heap.size (seC (hasO T) (txtO T)) 35,PoS V pb txg root C K0 wd,SlP 3 1 none 0 0 (intC (idsK T 0))] w1:=B1.more (SlP.nil 3 1 _)
 clear B B1
 go_loopw [7,8] (λ ov iv wr=>∃ (k:Nat) (ad:Option Addr) (cap:Nat),k<=32/\iv=.int .i64 k/\ov=.slice ad (idsK T k).length cap/\Bt W h [BlkP W.heap.size (seC (hasO T) (txtO T)) 35,PoS V pb txg root C K0 wd,SlP 3 1 ad (idsK T k).length cap (intC (idsK T k))] wr)
  (λ _ iv _=>32 - (intOf iv).toNat)
 case atStart=>exact ⟨0,none,0,Nat.zero_le _,rfl,rfl,B2⟩
 case round =>
  clear B2
  obtain ⟨k,ad,cap,hk,rfl,rfl,B⟩:=hrel
  have hlen:=idsK_len T k
  by_cases hlt:k < 32
  ·have RD:=RD k hlt
   have SZ:=SZ k hlt
   cases hT:T k with
   | none =>
    rw [hT] at RD SZ
    simp only [rdV,szV] at RD SZ
    have e1:hasO T k=false:=by rw [hasO,hT];rfl
    have e2:=idsK_none hT
    have E2:=Lib.hid e2
    clear hT e2
    go_wp2_with fail
    refine (Bt.call RD).mono ?_
    rintro e w1 ⟨v,q,rfl,⟨rfl,rfl⟩,B1⟩
    clear B RD
    dsimp only
    go_wp2_with fail
    refine (Bt.call SZ).mono ?_
    rintro e w2 ⟨v,q,rfl,⟨rfl,rfl⟩,B2⟩
    clear B1 SZ
    dsimp only
    go_wp2_with fail
    refine ⟨⟨k+1,ad,cap,hlt,by go_num,?_⟩,by simp [intOf];omega⟩
    rw [E2.out]
    exact ⟨rfl,B2⟩
   | some t =>
    rw [hT] at RD SZ
    simp only [rdV,szV] at RD SZ
    have e1:hasO T k=true:=by rw [hasO,hT];rfl
    have e3:txtO T k=t:=by rw [txtO,hT];rfl
    have e2:=idsK_some hT
    have E2:=Lib.hid e2
    clear hT e2
    go_wp2_with fail
    refine (Bt.call RD).mono ?_
    rintro e w1 ⟨v,q,rfl,⟨rfl,rfl⟩,B1⟩
    clear B RD
    dsimp only
    go_wp2_with fail
    refine (Bt.call SZ).mono ?_
    rintro e w2 ⟨v,q,rfl,⟨rfl,rfl⟩,B2⟩
    clear B1 SZ
    dsimp only
    go_wp2_with (at_builtin;(with_reducible apply wpList_appT);(·exact rfl);(·exact rfl);(·exact ii);(·exact ii);(·exact ii);(·exact rfl);(·decide);(·omega);intro gA capA wA bA;(try dsimp only at bA))
    refine ⟨⟨k+1,some ⟨gA,0,none⟩,capA,hlt,by go_num,?_⟩,by simp [intOf];omega⟩
    have e5:intC (idsK T k++[k])=intC (idsK T k)++[[.int .i64 k]]:=by simp [intC]
    rw [E2.out,e5,List.length_append]
    exact ⟨rfl,bA.drop⟩
  ·obtain rfl:k=32:=by omega
   have e5:idsK T 32=idsO T:=rfl
   rw [e5] at B hlen ⊢
   go_wp2_with fail
   refine (Bt.call LS).mono ?_
   rintro e w1 ⟨v,q,rfl,⟨ad2,cap2,rfl,rfl⟩,B1⟩
   clear B LS
   have B2:=Bt.oS (B1) [1,0,2]
   have B3:=B2.flat
   simp only [List.cons_append,List.nil_append] at B3
   clear B1 B2
   haveI r1:RdS 1 ad2 (idsO T).length cap2 (intC (idsO T)) w1:=(rd_sl B3 (i:=1) rfl).1
   haveI r2:RdS 1 ad (idsO T).length cap (intC (idsO T)) w1:=(rd_sl B3 (i:=3) rfl).1
   have hl32:=idsO_len T
   have EQ:∀ w,[RdS 1 ad2 (idsO T).length cap2 (intC (idsO T)) w]->[RdS 1 ad (idsO T).length cap (intC (idsO T)) w]->Fn 16 #[.slice ad2 (idsO T).length cap2,.slice ad (idsO T).length cap] w (.bool true):=λ w _ _=>requal_fn ad2 ad _ cap2 cap (intC (idsO T)) (λ x hx=>by
    obtain ⟨j,_,rfl⟩:=List.mem_map.1 hx
    exact ⟨_,rfl⟩) (by omega) w
   dsimp only
   go_wp2_with (with_reducible refine Fn.go λ g=>?_)
   go_ret
   exact fin_w (W:=W) (h:=h) (l:=[PoS V pb txg root C K0 wd,_,_,_]) ii λ w9 B9=>⟨_,⟨rfl,rfl⟩,B9.fin_at 0 rfl⟩
end
section
variable {V:VD} {pb txg:Nat} {root:Nd} {C:Nat} {K0:KS} {wd:Wd}
theorem OpR.tq {f:FuncId} {args:Array Value} {p:SP} {C C':Nat} {P P':Wd->Prop} (t:Tq f args p (OpR V pb txg root C K0 wd P)) (hc:C'<=C) (hp:∀ wd',P wd'->P' wd'):Tq f args p (OpR V pb txg root C' K0 wd P'):=t.mono λ v q hq=>by
 rcases hq with ⟨e,h1,h2,rfl⟩ | ⟨wd',h1,h2,rfl⟩
 ·exact ⟨_,.inl ⟨e,h1,h2,rfl⟩,λ h=>PoS.less hc⟩
 ·exact ⟨_,.inr ⟨wd',h1,hp _ h2,rfl⟩,λ h=>PoS.less hc⟩
theorem ldo_tq (ht:txg+1<=4294967295) (hC:140000<=C) (a:AcV) :
  Tq 19 #[pV pb,.agg a.cs] (PoS V pb txg root C K0 wd) (OpR V pb txg root (C - 140000) K0 wd (DoO a wd)):=by
 have hF:(fillS a.fill (cntN a.n)).size<=16384:=by rw [fillS_size];have:=cntN_le a.n;omega
 obtain ⟨m,hm⟩:∃ m,a.d.toNat % 8=m:=⟨_,rfl⟩
 have hm8:m < 8:=by omega
 have hD:∀ x,DoK m a wd x->DoO a wd x:=λ x h=>by unfold DoO;rw [hm];exact h
 have Q3:=λ (h:m=3)=>OpR.tq (P':=DoO a wd) (otruncate_tq (V:=V) (pb:=pb) (root:=root) (C:=C) (K0:=K0) (wd:=wd) ht a.id a.off hC) (Nat.le_refl _) λ x hx=>hD x (by subst h;exact hx)
 have Q4:=λ (h:m=4)=>OpR.tq (P':=DoO a wd) (oremove_tq (V:=V) (pb:=pb) (root:=root) (C:=C) (K0:=K0) (wd:=wd) ht a.id hC) (Nat.le_refl _) λ x hx=>hD x (by subst h;exact hx)
 have Q5:=λ (h:m=5)=>OpR.tq (P':=DoO a wd) (C':=C - 140000) (osnap_tq (V:=V) (pb:=pb) (root:=root) (C:=C) (K0:=K0) (wd:=wd) ht a.id) (by omega) λ x hx=>hD x (by subst h;exact hx)
 have Q6:=λ (h:m=6)=>OpR.tq (P':=DoO a wd) (C':=C - 140000) (odestroy_tq (V:=V) (pb:=pb) (root:=root) (C:=C) (K0:=K0) (wd:=wd) ht a.id) (by omega) λ x hx=>hD x (by subst h;exact hx)
 have Q7:=λ (h:m=7)=>OpR.tq (P':=DoO a wd) (C':=C - 140000) (orollback_tq (V:=V) (pb:=pb) (root:=root) (C:=C) (K0:=K0) (wd:=wd) ht a.id) (by omega) λ x hx=>hD x (by subst h;exact hx)
 have Q0:=λ (h:m < 3)=>OpR.tq (P':=DoO a wd) (owrite_tq (V:=V) (pb:=pb) (root:=root) (C:=C) (K0:=K0) (wd:=wd) ht a.id a.off (fillS a.fill (cntN a.n)) hF hC) (Nat.le_refl _) λ x hx=>hD x (by unfold DoK;split <;> first | omega | exact hx)
 have RC:=λ w=>rcount_fn a w
 have FL:=λ w=>fill_fn a.fill (cntN a.n) (by have:=cntN_le a.n;omega) w
 have HD:=Lib.hid hD
 have HF:=Lib.hid hF
 clear hD hF
 refine Tq.of λ W h B=>?_
 have hcs:a.cs=#[.int .u8 a.d.toNat,.int .i64 a.id,.int .i64 a.off,.int .i64 a.n,.int .u8 a.fill.toNat]:=rfl
 rw [hcs] at RC ⊢
 have hz:((a.d.toNat:Int) % 8)=(m:Int):=by omega
 clear hm
 rcases (show m=3\/m=4\/m=5\/m=6\/m=7\/m < 3 by omega) with rfl | rfl | rfl | rfl | rfl | h0
 ·have Q:=Q3 rfl
  clear Q0 Q3 Q4 Q5 Q6 Q7 RC FL HD
  go_enter Tryz.func19,Tryz.ntmps19
  go_wp2_with fail
  refine (Bt.call Q).mono ?_
  rintro e w1 ⟨v,q,rfl,hR,B1⟩
  have HR:=Lib.hid hR
  clear B Q hR
  dsimp only
  go_wp2_with fail
  go_ret
  exact fin_w (W:=W) (h:=h) B1 λ w9 B9=>⟨_,HR.out,B9.drop.fin_at 0 rfl⟩
 ·have Q:=Q4 rfl
  clear Q0 Q3 Q4 Q5 Q6 Q7 RC FL HD
  go_enter Tryz.func19,Tryz.ntmps19
  go_wp2_with fail
  refine (Bt.call Q).mono ?_
  rintro e w1 ⟨v,q,rfl,hR,B1⟩
  have HR:=Lib.hid hR
  clear B Q hR
  dsimp only
  go_wp2_with fail
  go_ret
  exact fin_w (W:=W) (h:=h) B1 λ w9 B9=>⟨_,HR.out,B9.drop.fin_at 0 rfl⟩
 ·have Q:=Q5 rfl
  clear Q0 Q3 Q4 Q5 Q6 Q7 RC FL HD
  go_enter Tryz.func19,Tryz.ntmps19
  go_wp2_with fail
  refine (Bt.call Q).mono ?_
  rintro e w1 ⟨v,q,rfl,hR,B1⟩
  have HR:=Lib.hid hR
  clear B Q hR
  dsimp only
  go_wp2_with fail
  go_ret
  exact fin_w (W:=W) (h:=h) B1 λ w9 B9=>⟨_,HR.out,B9.drop.fin_at 0 rfl⟩
 ·have Q:=Q6 rfl
  clear Q0 Q3 Q4 Q5 Q6 Q7 RC FL HD
  go_enter Tryz.func19,Tryz.ntmps19
  go_wp2_with fail
  refine (Bt.call Q).mono ?_
  rintro e w1 ⟨v,q,rfl,hR,B1⟩
  have HR:=Lib.hid hR
  clear B Q hR
  dsimp only
  go_wp2_with fail
  go_ret
  exact fin_w (W:=W) (h:=h) B1 λ w9 B9=>⟨_,HR.out,B9.drop.fin_at 0 rfl⟩
 ·have Q:=Q7 rfl
  clear Q0 Q3 Q4 Q5 Q6 Q7 RC FL HD
  go_enter Tryz.func19,Tryz.ntmps19
  go_wp2_with fail
  refine (Bt.call Q).mono ?_
  rintro e w1 ⟨v,q,rfl,hR,B1⟩
  have HR:=Lib.hid hR
  clear B Q hR
  dsimp only
  go_wp2_with fail
  go_ret
  exact fin_w (W:=W) (h:=h) B1 λ w9 B9=>⟨_,HR.out,B9.drop.fin_at 0 rfl⟩
 ·have Q:=Q0 h0
  have n3:((m:Int) == 3)=false:=by simp;omega
  have n4:((m:Int) == 4)=false:=by simp;omega
  have n5:((m:Int) == 5)=false:=by simp;omega
  have n6:((m:Int) == 6)=false:=by simp;omega
  have n7:((m:Int) == 7)=false:=by simp;omega
  clear Q0 Q3 Q4 Q5 Q6 Q7 HD
  go_enter Tryz.func19,Tryz.ntmps19
  go_wp2_with fail
  (first | (with_reducible refine pl2 (.q [0,1,2,3,4,5,6,7,8,9] (.x [10] (.q [11] .d))) ?_) | refine pl1 (.q [0,1,2,3,4,5,6,7,8,9] (.x [10] (.q [11] .d))) ?_);simp only [Plan.run,pick,gZ,gS,gA,gN]
  (repeat (first | ((with_reducible apply wpQuiet_load);(·exact rfl);(·rintro _ ⟨gq,rfl⟩;exact ii);go_frame) | go_big_quiet_step (exact qZ)));refine nZ ?_
  refine btI ?_
  intro w2 B2
  clear B
  go_wp2_with fail
  refine (Bt.call Q).mono ?_
  rintro e w3 ⟨v,q,rfl,hR,B3⟩
  have HR:=Lib.hid hR
  clear B2 Q hR
  dsimp only
  go_wp2_with fail
  dsimp only [Nx]
  (repeat go_big_quiet_step (exact qZ));refine nZ ?_
  rintro w4 hw4
  have B4:Bt W h [_,q] w4:=btCls hw4
  clear hw4 B3
  go_wp2_with fail
  go_ret
  exact fin_w (W:=W) (h:=h) B4 λ w9 B9=>⟨_,HR.out,B9.drop.fin_at 0 rfl⟩
end
section
variable {V:VD} {pb txg:Nat} {root:Nd} {C:Nat} {K0:KS} {wd:Wd}
theorem lsame_tq (ht:txg+1<=4294967295) (o:WdOk wd) (ia sa:Option Addr) (icap scap:Nat) :
  Tq 7 #[pV pb,.agg (wlW wd ia icap sa scap)] (star [PoS V pb txg root C K0 wd,SlP 3 1 ia wd.snaps.length icap (idC wd.snaps),SlP 35 64 sa wd.snaps.length scap (ssC wd.snaps)]) λ v q=>v=.int .i64 1/\q=star []:=by
 have S0:=lset_tq (V:=V) (pb:=pb) (root:=root) (C:=C) (K0:=K0) (wd:=wd) ht (-1) wd.live (.inl ⟨rfl,rfl⟩)
 have SN:=osnaps_tq (V:=V) (pb:=pb) (txg:=txg) (root:=root) (C:=C) (K0:=K0) (wd:=wd)
 have S1:=λ (i:Nat) (id:Int) (T:Objs) (hx:wd.snaps[i]?=some (id,T))=>lset_tq (V:=V) (pb:=pb) (root:=root) (C:=C) (K0:=K0) (wd:=wd) ht id T (.inr ⟨by have:=o.pos _ (List.mem_of_getElem? hx);intro h;rw [h] at this;revert this;show ¬ (0:Int)<=-1;decide,i,hx⟩)
 have hlen:=o.len
 refine Tq.of λ W h B0=>?_
 have B:=B0.flat
 simp only [List.cons_append,List.nil_append] at B
 clear B0
 unfold wlW
 go_enter Tryz.func7,Tryz.ntmps7
 go_wp2_with fail
 have B1:Bt W h [BlkP W.heap.size (wlC (hasO wd.live) (txtO wd.live) (.slice ia wd.snaps.length icap) (.slice sa wd.snaps.length scap)) 39,PoS V pb txg root C K0 wd,SlP 3 1 ia wd.snaps.length icap (idC wd.snaps),SlP 35 64 sa wd.snaps.length scap (ssC wd.snaps)] (W.alloc (.cells (wlC (hasO wd.live) (txtO wd.live) (.slice ia wd.snaps.length icap) (.slice sa wd.snaps.length scap)) 39)):=ii
 refine wp_world (W:=W) (h:=h) B1 ?_
 clear B1 B
 rintro w1 B1
 obtain ⟨HL,hHL⟩:∃ HL:List SP,HL=[BlkP W.heap.size (wlC (hasO wd.live) (txtO wd.live) (.slice ia wd.snaps.length icap) (.slice sa wd.snaps.length scap)) 39]:=⟨_,rfl⟩
 have in0:In (star HL) w1:=by
  rw [hHL]
  obtain ⟨h0,p,hw⟩:=(B1.app [_]).mem (i:=0) rfl
  exact ⟨h0,p,hw⟩
 have i1:∀ x:WIn (star HL),CellsIn x.w W.heap.size (wlC (hasO wd.live) (txtO wd.live) (.slice ia wd.snaps.length icap) (.slice sa wd.snaps.length scap)):=λ x=>cells_star x.h (k:=0) (by rw [hHL];rfl)
 have HHL:=Lib.hid hHL
 clear hHL
 have GH:=gc_hin (star HL)
 haveI:Nonempty (WIn (star HL)):=⟨⟨w1,in0⟩⟩
 refine wp_region_planD (HIn (star HL)) [3,7] (.q [0,1,2] (.x [3] (.q [4,5,6] (.f [8,9] (.x [7] (.q [10,11,12] .d)))))) GH (HIn.of in0) (by kernel_rfl) (by kernel_rfl) ?_
 simp only [Plan.runC,pick,List.getElem?_cons_zero,List.getElem?_cons_succ,List.cons_append,List.nil_append]
 (repeat (first | ((with_reducible apply wpQuiet_load);(·exact rfl);(·rintro _ ⟨gq,rfl⟩;exact ii);go_frame) | go_big_quiet_step (exact qZ)));refine nZ ?_
 refine btI ?_
 intro w2 B2
 clear B1
 go_wp2_with fail
 refine (Bt.call S0).mono ?_
 rintro e w3 ⟨v,q,rfl,⟨rfl,rfl⟩,B3⟩
 clear B2
 have in3:In (star HL) w3:=by
  rw [HHL.out]
  obtain ⟨h0,p,hw⟩:=(B3.app [_]).mem (i:=0) rfl
  exact ⟨h0,p,hw⟩
 dsimp only
 go_wp2_with fail
 dsimp only [Nx]
 refine ⟨_,⟨gc_hin _,λ v hv=>hv⟩,λ _=>HIn.of in3,?_⟩
 (repeat (first | ((with_reducible apply wpQuiet_load);(·exact rfl);(·rintro _ ⟨gq,rfl⟩;exact ii);go_frame) | go_big_quiet_step (exact qZ)));refine nZ ?_
 (repeat (first | ((with_reducible apply wpQuiet_load);(·exact rfl);(·rintro _ ⟨gq,rfl⟩;exact ii);go_frame) | go_big_quiet_step (exact qZ)));refine nZ ?_
 rintro w4 hw4
 have B4:Bt W h [BlkP W.heap.size (wlC (hasO wd.live) (txtO wd.live) (.slice ia wd.snaps.length icap) (.slice sa wd.snaps.length scap)) 39,PoS V pb txg root C K0 wd,SlP 3 1 ia wd.snaps.length icap (idC wd.snaps),SlP 35 64 sa wd.snaps.length scap (ssC wd.snaps)] w4:=btCls hw4
 clear hw4 B3 S0
 go_wp2_with fail
 refine (Bt.call SN).mono ?_
 rintro e w5 ⟨v,q,rfl,⟨ad2,cap2,rfl,rfl⟩,B5⟩
 clear B4 SN
 have B6:=Bt.oS (B5) [1,0,2,3]
 have B7:=B6.flat
 simp only [List.cons_append,List.nil_append] at B7
 have in5:In (star HL) w5:=by
  rw [HHL.out]
  have B8:=Bt.oS (B7) [2,0,1,3,4]
  obtain ⟨h0,p,hw⟩:=(B8.app [_]).mem (i:=0) rfl
  exact ⟨h0,p,hw⟩
 clear B5 B6
 haveI r1:RdS 1 ad2 wd.snaps.length cap2 (idC wd.snaps) w5:=(rd_sl B7 (i:=1) rfl).1
 haveI r2:RdS 1 ia wd.snaps.length icap (idC wd.snaps) w5:=(rd_sl B7 (i:=3) rfl).1
 have EQ:∀ w,[RdS 1 ad2 wd.snaps.length cap2 (idC wd.snaps) w]->[RdS 1 ia wd.snaps.length icap (idC wd.snaps) w]->Fn 16 #[.slice ad2 wd.snaps.length cap2,.slice ia wd.snaps.length icap] w (.bool true):=λ w _ _=>requal_fn ad2 ia _ cap2 icap (idC wd.snaps) (λ x hx=>by
  obtain ⟨j,_,rfl⟩:=List.mem_map.1 hx
  exact ⟨_,rfl⟩) (by omega) w
 dsimp only
 go_wp2_with fail
 dsimp only [Nx]
 refine ⟨_,⟨gc_hin _,λ v hv=>hv⟩,λ _=>HIn.of in5,?_⟩
 (repeat (first | ((with_reducible apply wpQuiet_load);(·exact rfl);(·rintro _ ⟨gq,rfl⟩;exact ii);go_frame) | go_big_quiet_step (exact qZ)));refine nZ ?_
 refine btI ?_
 intro w6 B8
 clear B7 r1 r2 EQ in0 in3 in5 GH i1 this
 go_wp2_with fail
 have B9:=Bt.oS (B8) [2,0,3,4,1]
 refine wp_world (W:=W) (h:=h) B9 ?_
 clear B8 B9
 rintro w7 B9
 go_loopw [5] (λ iv wr=>∃ k:Nat,k<=wd.snaps.length/\iv=.int .i64 k/\Bt W h [BlkP W.heap.size (wlC (hasO wd.live) (txtO wd.live) (.slice ia wd.snaps.length icap) (.slice sa wd.snaps.length scap)) 39,PoS V pb txg root C K0 wd,SlP 3 1 ia wd.snaps.length icap (idC wd.snaps),SlP 35 64 sa wd.snaps.length scap (ssC wd.snaps)] wr)
  (λ iv _=>wd.snaps.length - (intOf iv).toNat)
 case atStart =>
  have B10:=Bt.oS (B9) [4,0,1,2,3]
  exact ⟨0,Nat.zero_le _,rfl,B10.drop⟩
 case round =>
  clear B9
  obtain ⟨k,hk,rfl,B⟩:=hrel
  by_cases hlt:k < wd.snaps.length
  ·obtain ⟨⟨id,T⟩,hx⟩:∃ x,wd.snaps[k]?=some x:=⟨_,List.getElem?_eq_getElem hlt⟩
   have S:=S1 k id T hx
   obtain ⟨b1,o1,rfl,hb1,hc1⟩:=(rd_sl B (i:=2) rfl).1.cells k [.int .i64 id] (by simp [idC,hx])
   obtain ⟨b2,o2,rfl,hb2,hc2⟩:=(rd_sl B (i:=3) rfl).1.cells k (seO T) (by simp [ssC,hx])
   have c1:=hc1 0 _ rfl
   rw [Nat.add_zero,Nat.mul_one] at c1
   haveI:SubAt b2 (o2+k*64) (seC (hasO T) (txtO T)) 64 wr:=⟨seC_size ..,hb2,λ j v e=>hc2 j v (by simpa [seC,seO] using e)⟩
   clear hc1 hc2 hx S1
   go_wp2_with fail
   (first | (with_reducible refine pl2 (.q [0,1,2,3,4,5,6,7,8,9,10] (.x [11] (.q [12] .d))) ?_) | refine pl1 (.q [0,1,2,3,4,5,6,7,8,9,10] (.x [11] (.q [12] .d))) ?_);simp only [Plan.run,pick,gZ,gS,gA,gN]
   (repeat (first | ((with_reducible apply wpQuiet_load);(·exact rfl);(·rintro _ ⟨gq,rfl⟩;exact ii);go_frame) | go_big_quiet_step (exact qZ)));refine nZ ?_
   refine btI ?_
   intro w8 C1
   clear B
   go_wp2_with fail
   refine (Bt.call S).mono ?_
   rintro e w9 ⟨v,q,rfl,⟨rfl,rfl⟩,C2⟩
   clear C1 S
   dsimp only
   go_wp2_with fail
   dsimp only [Nx]
   (repeat go_big_quiet_step (exact qZ));refine nZ ?_
   refine btI ?_
   intro w10 C3
   clear C2
   go_wp2_with fail
   exact ⟨⟨k+1,hlt,by go_num,C3⟩,by simp [intOf];omega⟩
  ·obtain rfl:k=wd.snaps.length:=by omega
   go_wp2_with fail
   go_ret
   exact fin_w (W:=W) (h:=h) B λ w9 B9=>⟨_,⟨rfl,rfl⟩,B9.t.mono λ _ _=>trivial⟩
end
section
variable {W w:World} {h:Hl} {l:List SP} {b:Nat} {H:Nat->Bool} {X:Nat->ByteArray} {u v x:Value} {t:TypeId}
theorem Stopped.world {G:World->Prop} (B:Bt W h l w) (k:∀ w',Bt W h l w'->G w'):Stopped (G w):=⟨k w B⟩
theorem rds_one (c:Nat) [C:CellsIn w b #[x]]:RdS 1 (some ⟨b,0,none⟩) 1 c [[x]] w:=⟨rfl,λ k y e=>by
 have hk:k=0:=by
  have:=(List.getElem?_eq_some_iff.1 e).1
  simp at this
  exact this
 subst hk
 cases e
 refine ⟨b,0,rfl,CellsIn.old (cs:=#[x]) C,λ j v hj=>?_⟩
 rw [cell_in w b (0+0*1+j) #[x]]
 simpa using hj⟩
theorem rds_set (c:Nat) [C:CellsIn w b (seC H X)]:RdS 64 (some ⟨b,0,none⟩) 1 c [seL H X] w:=⟨rfl,λ k y e=>by
 have hk:k=0:=by
  have:=(List.getElem?_eq_some_iff.1 e).1
  simp at this
  exact this
 subst hk
 cases e
 refine ⟨b,0,rfl,CellsIn.old (cs:=seC H X) C,λ j v hj=>?_⟩
 rw [cell_in w b (0+0*64+j) (seC H X)]
 simpa [seC] using hj⟩
end
section
variable {ops:Array Oper} {rest:List Oper} {Q:Exit->Act->World->Prop} {a:Act} {w:World} {d:Option Tmp} {ty:TypeId} {pos:String} {aft:Array Edge}
theorem wpList_val {o:Oper} {v:Value} (hg:o.guard=none) (hr:(execOp a.eval o).run Tryz.prog w=.ok (.value v) w) (h:wpList Tryz.prog ops Q rest (a.put o.dst v) w):wpList Tryz.prog ops Q (o::rest) a w:=wpList_value hg hr h
theorem stopLeq {x y:Operand} (h:Stopped (wpList Tryz.prog ops Q ({ dst:=d,op:=.binOp .leq 5 x y 5,type:=ty,pos:=pos,after:=aft,guard:=none }::rest) a w)) :
  wpList Tryz.prog ops Q ({ dst:=d,op:=.binOp .leq 5 x y 5,type:=ty,pos:=pos,after:=aft,guard:=none }::rest) a w:=h.o
end
class Lt32 (k:Nat):Prop where
 h:k < 32
section
variable (l:List SP) (n:Nat) (H:Nat->Bool) (X:Nat->ByteArray) (u v x:Value) (t:TypeId)
instance (priority:=high) setW64:SetL (BlkP n (wlC H X u v) t::l) n (λ cs=>cs.setIfInBounds 64 x) (BlkP n (wlC H X x v) t::l):=⟨0,wlC H X u v,t,rfl,by simp only [wlC_set64];rfl⟩
instance (priority:=high) setW65:SetL (BlkP n (wlC H X u v) t::l) n (λ cs=>cs.setIfInBounds 65 x) (BlkP n (wlC H X u x) t::l):=⟨0,wlC H X u v,t,rfl,by simp only [wlC_set65];rfl⟩
instance (priority:=high) setWh (k:Nat) (y:Bool) [q:Lt32 k]:SetL (BlkP n (wlC H X u v) t::l) n (λ cs=>cs.setIfInBounds k (.bool y)) (BlkP n (wlC (updN H k y) X u v) t::l):=⟨0,wlC H X u v,t,rfl,by simp only [wlC_set1 _ _ _ _ q.h];rfl⟩
instance (priority:=high) setWt (k:Nat) (y:ByteArray) [q:Lt32 k]:SetL (BlkP n (wlC H X u v) t::l) n (λ cs=>cs.setIfInBounds (32+k) (.string y)) (BlkP n (wlC H (updN X k y) u v) t::l):=⟨0,wlC H X u v,t,rfl,by simp only [wlC_set2 _ _ _ _ q.h];rfl⟩
end
theorem idC_z (l:List (Int × Objs)):∀ y∈idC l,y.length=1:=by
 intro y hy
 obtain ⟨x,_,rfl⟩:=List.mem_map.1 hy
 rfl
theorem idC_one (l:List (Int × Objs)):∀ y∈idC l,∀ u∈y,u.oneCell'=true:=by
 intro y hy u hu
 obtain ⟨x,_,rfl⟩:=List.mem_map.1 hy
 rw [List.mem_singleton] at hu
 subst hu;rfl
theorem ssC_z (l:List (Int × Objs)):∀ y∈ssC l,y.length=64:=by
 intro y hy
 obtain ⟨x,_,rfl⟩:=List.mem_map.1 hy
 exact seL_len ..
theorem ssC_one (l:List (Int × Objs)):∀ y∈ssC l,∀ u∈y,u.oneCell'=true:=by
 intro y hy
 obtain ⟨x,_,rfl⟩:=List.mem_map.1 hy
 exact seL_one _ _
theorem fndR_ex (id:Int):∀ l:List (Int × Objs),∃ r,FndR l id r
 | []=>⟨-1,.inr ⟨rfl,λ y hy=>by cases hy⟩⟩
 | y::l=>by
  by_cases h:y.1=id
  ·exact ⟨0,.inl ⟨0,y.2,rfl,by rw [<-h];rfl,λ j _ hj=>absurd hj (Nat.not_lt_zero j)⟩⟩
  ·obtain ⟨r,hr⟩:=fndR_ex id l
   rcases hr with ⟨i,T,rfl,h1,h2⟩ | ⟨rfl,h2⟩
   ·refine ⟨((i+1:Nat):Int),.inl ⟨i+1,T,rfl,h1,λ j z hj e=>?_⟩⟩
    cases j with
    | zero=>cases e;exact h
    | succ j=>exact h2 j z (by omega) e
   ·refine ⟨-1,.inr ⟨rfl,λ z hz=>?_⟩⟩
    rcases List.mem_cons.1 hz with rfl | hz
    ·exact h
    ·exact h2 z hz
def slW (wd:Wd) (ia:Option Addr) (icap:Nat) (sa:Option Addr) (scap:Nat):List SP:=[SlP 3 1 ia wd.snaps.length icap (idC wd.snaps),SlP 35 64 sa wd.snaps.length scap (ssC wd.snaps)]
def RdoR (a:AcV) (wd:Wd) (ia:Option Addr) (icap:Nat) (sa:Option Addr) (scap:Nat) (W:World) (e:Ending) (w':World):Prop :=
 ∃ H X a1 n1 c1 a2 n2 c2 want q,e=.returned (.tuple #[.agg (wlC H X (.slice a1 n1 c1) (.slice a2 n2 c2)),.int .i64 want])/\New1 q W w' /\
  ((want≠0/\wlC H X (.slice a1 n1 c1) (.slice a2 n2 c2)=wlW wd ia icap sa scap/\q=star []) \/
   (want=0/\∃ wd' ia' icap' sa' scap',DoO a wd wd'/\wlC H X (.slice a1 n1 c1) (.slice a2 n2 c2)=wlW wd' ia' icap' sa' scap'/\q=star (slW wd' ia' icap' sa' scap')))
section
variable {a:AcV} {wd:Wd} {ia sa:Option Addr} {icap scap:Nat}
theorem rdo_no {W w:World} {l:List SP} {want:Int} (h:want≠0) (B:Bt W (λ _=>none) l w):RdoR a wd ia icap sa scap W (.returned (.tuple #[.agg (wlC (hasO wd.live) (txtO wd.live) (.slice ia wd.snaps.length icap) (.slice sa wd.snaps.length scap)),.int .i64 want])) w :=
 ⟨_,_,_,_,_,_,_,_,want,star [],rfl,(B.t.mono λ _ _=>trivial:Turns W (λ _=>none) (star []) w).new1,.inl ⟨h,rfl,rfl⟩⟩
theorem rdo_yes {W w:World} {wd':Wd} {H:Nat->Bool} {X:Nat->ByteArray} {ia' sa':Option Addr} {n1 n2 ic' sc':Nat} {p1 p2 p3 p4:SP} (hD:DoO a wd wd') (he:wlC H X (.slice ia' n1 ic') (.slice sa' n2 sc')=wlW wd' ia' ic' sa' sc')
  (B:Bt W (λ _=>none) (p1::p2::p3::p4::slW wd' ia' ic' sa' sc') w):RdoR a wd ia icap sa scap W (.returned (.tuple #[.agg (wlC H X (.slice ia' n1 ic') (.slice sa' n2 sc')),.int .i64 0])) w:=by
 have B2:Bt W (λ _=>none) (slW wd' ia' ic' sa' sc'++[]) w:=by rw [List.append_nil];exact B.drop.drop.drop.drop
 exact ⟨_,_,_,_,_,_,_,_,0,star (slW wd' ia' ic' sa' sc'),rfl,((B2.app _).fin_at 0 rfl:Turns W (λ _=>none) _ w).new1,.inr ⟨rfl,wd',ia',ic',sa',sc',hD,he,rfl⟩⟩
theorem slW_snoc (wd:Wd) (id:Int) (T:Objs) (ia:Option Addr) (icap:Nat) (sa:Option Addr) (scap:Nat):slW { wd with snaps:=wd.snaps++[(id,T)] } ia icap sa scap=[SlP 3 1 ia (wd.snaps.length+1) icap (idC wd.snaps++[[.int .i64 id]]),SlP 35 64 sa (wd.snaps.length+1) scap (ssC wd.snaps++[seL (hasO T) (txtO T)])]:=by simp [slW,idC,ssC,seO]
theorem idC_erase (l:List (Int × Objs)) (i:Nat):idC (l.eraseIdx i)=(idC l).take i++(idC l).drop (i+1):=by
 rw [List.eraseIdx_eq_take_drop_succ,idC,idC,List.map_append,List.map_take,List.map_drop]
theorem ssC_erase (l:List (Int × Objs)) (i:Nat):ssC (l.eraseIdx i)=(ssC l).take i++(ssC l).drop (i+1):=by
 rw [List.eraseIdx_eq_take_drop_succ,ssC,ssC,List.map_append,List.map_take,List.map_drop]
theorem len_erase {α:Type} (l:List α) (i:Nat) (hi:i < l.length):(l.eraseIdx i).length=i+(l.length - (i+1)):=by
 rw [List.length_eraseIdx_of_lt hi];omega
theorem slW_erase (wd:Wd) (i:Nat) (hi:i < wd.snaps.length) (ia:Option Addr) (icap:Nat) (sa:Option Addr) (scap:Nat):slW { wd with snaps:=wd.snaps.eraseIdx i } ia icap sa scap=[SlP 3 1 ia (i+(wd.snaps.length - (i+1))) icap ((idC wd.snaps).take i++(idC wd.snaps).drop (i+1)),SlP 35 64 sa (i+(wd.snaps.length - (i+1))) scap ((ssC wd.snaps).take i++(ssC wd.snaps).drop (i+1))]:=by
 simp only [slW]
 rw [len_erase _ _ hi,idC_erase,ssC_erase]
theorem in_one {W w:World} {h:Hl} {l:List SP} (B:Bt W h l w) {i:Nat} {p:SP} (e:l[i]?=some p):In (star [p]) w:=by
 obtain ⟨h0,hp,hw⟩:=B.mem e
 exact ⟨h0,⟨h0,λ _=>none,hp,trivial,λ _ _ e=>e,(λ _ _ e=>by cases e),λ _=>.inr rfl⟩,hw⟩
theorem BlkP.slice0 {b:Nat} {t:TypeId} {z:Nat} {h:Hl} (p:BlkP b #[] t h):SlP t z (some ⟨b,0,none⟩) 0 0 [] h:=⟨rfl,by simp,.inr ⟨b,rfl,Nat.zero_le _,#[],p,by simp,by simp,by simp,by simp⟩⟩
end
end Go.Proofs.YtlfjdjndhcmliaaGreatDoor
