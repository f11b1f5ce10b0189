/- WholeGeoms, part 22. -/
import Derived.Test.YtlfjdjndhcmliaaGreatDoorA21
import Derived.Test.YtlfjdjndhcmliaaGreatDoorA09
set_option maxRecDepth 100000
set_option maxHeartbeats 4000000
set_option linter.all false
namespace Go.Proofs.YtlfjdjndhcmliaaGreatDoor
open Go.RowKit Go.Sort
section
variable {V:VD} {st bb:Nat} {sb:Slc} {txg keep:Nat} {meta_:Bool}
theorem as_tq (K:KS) (c:Nat):Tq 66 #[.pointer (some ⟨st,0,none⟩),.bool true] (StP V st bb sb txg keep meta_ K c) λ v q=>∃ st2,v=.pointer (some ⟨st2,0,none⟩)/\q=StP V st2 bb sb txg keep true K c:=by
 refine Tq.of λ W h B0=>?_
 obtain ⟨dn,N,F,ms,es,ok,B⟩:=B0.opn
 simp only [StL,List.append_nil,List.cons_append,List.nil_append] at B
 clear B0
 have B1:Bt W h (_::_) W:=B.app [_,_]
 clear B
 go_enter Tryz.func66,Tryz.ntmps66
 go_wp2_with fail
 refine (Bt.call (work_tq V st bb txg keep meta_ dn c)).mono ?_
 rintro e w1 ⟨v,q,rfl,⟨d,fx,bad,bn,bcap,born,rfl,⟨rfl,hb⟩,rfl⟩,B2⟩
 have B3:Bt W h [_,_,_,_,_,_] w1:=B2.flat
 clear B1 B2
 dsimp only
 go_wp2_with fail
 go_ret
 (first | apply fin_a | apply fin_b)
 have B4:Bt W h [_,_,_,_,_,_,_] (w1.alloc (.cells (stC V bb txg keep true (dnV d)) 169)):=ii
 exact ⟨⟨w1.heap.size,rfl,rfl⟩,(Bt.shut_st ok ⟨rfl,hb⟩ B4.drop1).fin_at 0 rfl⟩
theorem RwP.of_blk {t:TypeId} {z g cap:Nat} {L:List (List Value)} {cs:Array Value} {h:Hl} (b:BlkP g cs t h) (h1:cs.toList=L.flatten) (h2:∀ x∈L,x.length=z) (h3:L.length=cap) (h4:cs.size=cap*z):RwP t z g cap L h:=⟨cs,b,h4,by rw [h3,<- h4,<- Array.length_toList,List.take_length,h1],h2,by omega⟩
theorem fin3 {W w:World} {h:Hl} {a b c p q r:SP} (B:Bt W h [a,b,c,p,q,r] w):Turns W h (star [p,q,r]) w:=(B.drop.drop.drop.app [_,_,_]).fin_at 0 rfl
theorem fin5 {W w:World} {h:Hl} {a b c d e p q r:SP} (B:Bt W h [a,b,c,d,e,p,q,r] w):Turns W h (star [p,q,r]) w:=(B.drop.drop.drop.drop.drop.app [_,_,_]).fin_at 0 rfl
theorem finr3 {W w:World} {h:Hl} {bk n:Nat} {cs:Array Value} {t:TypeId} {L:List (List Value)} {b c p q r:SP} (h1:cs.toList=L.flatten) (h2:∀ x∈L,x.length=2) (h3:L.length=n) (B:Bt W h [BlkP bk cs t,b,c,p,q,r] w):Turns W h (star [p,RwP t 2 bk n L,q,r]) w :=
 (((B.drop1.drop1.head λ _ s=>RwP.of_blk s h1 h2 h3 (by rw [<-Array.length_toList,h1,flat_len h2,h3])).perm (.swap ..)).app [_,_,_,_]).fin_at 0 rfl
theorem finr5 {W w:World} {h:Hl} {bk n:Nat} {cs:Array Value} {t:TypeId} {L:List (List Value)} {b c d e p q r:SP} (h1:cs.toList=L.flatten) (h2:∀ x∈L,x.length=2) (h3:L.length=n) (B:Bt W h [BlkP bk cs t,b,c,d,e,p,q,r] w):Turns W h (star [p,RwP t 2 bk n L,q,r]) w :=
 finr3 h1 h2 h3 B.drop1.drop1
def plcL (i a:Nat):List Value:=[.int .i64 i,.int .i64 a]
def PlcR (V:VD) (st bb:Nat) (sb:Slc) (txg keep:Nat) (meta_:Bool) (dn:Value) (ms:List MD) (size:Nat) (v:Value) (q:SP):Prop :=
 (∃ sl e ms' es',e≠0/\v=.tuple #[sl,.int .i64 e]/\Alike ms ms'/\q=star [BlkP st (stC V bb txg keep meta_ dn) 169,GMP sb,BookC bb sb V.secs ms' es']) \/
 (∃ b i a n ms0 ms' es',v=.tuple #[.slice (some ⟨b,0,none⟩) 1 1,.int .i64 0]/\Alike ms ms0/\Took sb V.secs ms0 ms' size i a n/\q=star [BlkP st (stC V bb txg keep meta_ dn) 169,RwP 45 2 b 1 [plcL i a],GMP sb,BookC bb sb V.secs ms' es']) \/
 (∃ b i a n j c k ms1 ms' es',v=.tuple #[.slice (some ⟨b,0,none⟩) 2 2,.int .i64 0]/\Took sb V.secs ms ms1 size i a n/\Took sb V.secs ms1 ms' size j c k/\q=star [BlkP st (stC V bb txg keep meta_ dn) 169,RwP 45 2 b 2 [plcL i a,plcL j c],GMP sb,BookC bb sb V.secs ms' es'])
theorem places_tq (dn:Value) (ms:List MD) (es:List Nat) (size level:Nat) (hz:1<=size/\size<=4) (hk:keep<=1000) :
  Tq 323 #[.pointer (some ⟨st,0,none⟩),.int .i64 size,.int .i64 level] (star [BlkP st (stC V bb txg keep meta_ dn) 169,GMP sb,BookC bb sb V.secs ms es]) (PlcR V st bb sb txg keep meta_ dn ms size):=by
 refine Tq.of λ W h B0=>?_
 have B:=B0.flat
 simp only [List.append_nil] at B
 clear B0
 haveI:IsBook bb sb V.secs ms es W:=⟨ii⟩
 obtain ⟨x,hx⟩:∃ x,leftTo ms ms.length=x:=⟨_,rfl⟩
 have HL:∀ w,[IsBook bb sb V.secs ms es w]->Fn 294 #[.pointer (some ⟨bb,0,none⟩)] w (.int .i64 x):=λ w _=>by rw [<-hx];exact bleft_fn bb sb V.secs ms es w
 clear hx
 go_enter Tryz.func323,Tryz.ntmps323
 go_wp2_with fail
 (first | (with_reducible refine pl2 (.q [0,1,2,3,4,5,6,7,8,9,10] .d) ?_) | refine pl1 (.q [0,1,2,3,4,5,6,7,8,9,10] .d) ?_);simp only [Plan.run,pick,gZ,gS,gA,gN]
 (repeat go_big_quiet_step (exact qZ));refine nZ ?_
 refine btI ?_
 intro w1 B1
 clear B
 by_cases hlt:x < (keep:Int)+16
 ·go_wp2_with fail
  go_ret2
  (first | apply fin_a | apply fin_b)
  exact ⟨.inl ⟨_,8,ms,es,by decide,rfl,rfl,rfl⟩,(B1.app [_,_,_]).fin_at 0 rfl⟩
 ·by_cases hl:0 < level
  ·have hl':(0:Int) < level:=by omega
   go_wp2_with fail
   refine (Bt.call2 (get_tq bb sb V.secs ms es size hz true)).mono ?_
   rintro e w2 ⟨v,q,rfl,hq,C0⟩
   rcases hq with ⟨rfl,ms2,es2,a2,rfl⟩ | ⟨h2,_⟩ | ⟨_,i,a,n,j,b,k,ms1,ms2,es2,rfl,T1,T2,rfl⟩
   ·have C1:Bt W h [_,_,_] w2:=C0.unrot
    clear C0 B1
    dsimp only
    go_wp2_with fail
    refine (Bt.call2 (get_tq bb sb V.secs ms2 es2 size hz false)).mono ?_
    rintro e w9 ⟨v,q,rfl,hq,C0⟩
    rcases hq with ⟨rfl,ms9,es9,a9,rfl⟩ | ⟨_,i,a,n,ms9,es9,rfl,T9,rfl⟩ | ⟨h9,_⟩
    ·have C1:Bt W h [_,_,_,_,_] w9:=C0.unrot
     clear C0
     dsimp only
     go_wp2_with ((with_reducible apply wpList_load);(·exact rfl);(·exact ii))
     go_ret2
     (first | apply fin_a | apply fin_b)
     exact ⟨.inl ⟨_,8,ms9,es9,by decide,rfl,a9.trans a2,rfl⟩,fin5 ii⟩
    ·have C1:Bt W h [_,_,_,_,_] w9:=C0.unrot
     clear C0
     dsimp only [plcV]
     go_wp2_with ((with_reducible apply wpList_load);(·exact rfl);(·exact ii))
     go_ret2
     (first | apply fin_a | apply fin_b)
     exact ⟨.inr (.inl ⟨w9.heap.size+1+1,i,a,n,ms2,ms9,es9,rfl,a2,T9,rfl⟩),finr5 rfl (by simp [plcL]) rfl ii⟩
    ·cases h9
   ·cases h2
   ·have C1:Bt W h [_,_,_] w2:=C0.unrot
    clear C0 B1
    dsimp only [plcV]
    go_wp2_with ((with_reducible apply wpList_load);(·exact rfl);(·exact ii))
    go_ret2
    (first | apply fin_a | apply fin_b)
    exact ⟨.inr (.inr ⟨w2.heap.size+1+1,i,a,n,j,b,k,ms1,ms2,es2,rfl,T1,T2,rfl⟩),finr3 rfl (by simp [plcL]) rfl ii⟩
  ·obtain rfl:level=0:=by omega
   cases meta_
   ·go_wp2_with fail
    refine (Bt.call2 (get_tq bb sb V.secs ms es size hz false)).mono ?_
    rintro e w9 ⟨v,q,rfl,hq,C0⟩
    rcases hq with ⟨rfl,ms9,es9,a9,rfl⟩ | ⟨_,i,a,n,ms9,es9,rfl,T9,rfl⟩ | ⟨h9,_⟩
    ·have C1:Bt W h [_,_,_] w9:=C0.unrot
     clear C0
     dsimp only
     go_wp2_with ((with_reducible apply wpList_load);(·exact rfl);(·exact ii))
     go_ret2
     (first | apply fin_a | apply fin_b)
     exact ⟨.inl ⟨_,8,ms9,es9,by decide,rfl,a9,rfl⟩,fin3 ii⟩
    ·have C1:Bt W h [_,_,_] w9:=C0.unrot
     clear C0
     dsimp only [plcV]
     go_wp2_with ((with_reducible apply wpList_load);(·exact rfl);(·exact ii))
     go_ret2
     (first | apply fin_a | apply fin_b)
     exact ⟨.inr (.inl ⟨w9.heap.size+1+1,i,a,n,ms,ms9,es9,rfl,rfl,T9,rfl⟩),finr3 rfl (by simp [plcL]) rfl ii⟩
    ·cases h9
   ·go_wp2_with fail
    refine (Bt.call2 (get_tq bb sb V.secs ms es size hz true)).mono ?_
    rintro e w2 ⟨v,q,rfl,hq,C0⟩
    rcases hq with ⟨rfl,ms2,es2,a2,rfl⟩ | ⟨h2,_⟩ | ⟨_,i,a,n,j,b,k,ms1,ms2,es2,rfl,T1,T2,rfl⟩
    ·have C1:Bt W h [_,_,_] w2:=C0.unrot
     clear C0 B1
     dsimp only
     go_wp2_with fail
     refine (Bt.call2 (get_tq bb sb V.secs ms2 es2 size hz false)).mono ?_
     rintro e w9 ⟨v,q,rfl,hq,C0⟩
     rcases hq with ⟨rfl,ms9,es9,a9,rfl⟩ | ⟨_,i,a,n,ms9,es9,rfl,T9,rfl⟩ | ⟨h9,_⟩
     ·have C1:Bt W h [_,_,_,_,_] w9:=C0.unrot
      clear C0
      dsimp only
      go_wp2_with ((with_reducible apply wpList_load);(·exact rfl);(·exact ii))
      go_ret2
      (first | apply fin_a | apply fin_b)
      exact ⟨.inl ⟨_,8,ms9,es9,by decide,rfl,a9.trans a2,rfl⟩,fin5 ii⟩
     ·have C1:Bt W h [_,_,_,_,_] w9:=C0.unrot
      clear C0
      dsimp only [plcV]
      go_wp2_with ((with_reducible apply wpList_load);(·exact rfl);(·exact ii))
      go_ret2
      (first | apply fin_a | apply fin_b)
      exact ⟨.inr (.inl ⟨w9.heap.size+1+1,i,a,n,ms2,ms9,es9,rfl,a2,T9,rfl⟩),finr5 rfl (by simp [plcL]) rfl ii⟩
     ·cases h9
    ·cases h2
    ·have C1:Bt W h [_,_,_] w2:=C0.unrot
     clear C0 B1
     dsimp only [plcV]
     go_wp2_with ((with_reducible apply wpList_load);(·exact rfl);(·exact ii))
     go_ret2
     (first | apply fin_a | apply fin_b)
     exact ⟨.inr (.inr ⟨w2.heap.size+1+1,i,a,n,j,b,k,ms1,ms2,es2,rfl,T1,T2,rfl⟩),finr3 rfl (by simp [plcL]) rfl ii⟩
end
theorem Tq.u {f:FuncId} {args:Array Value} {p q0:SP} {v0:Value} (t:Tq f args p λ v q=>v=v0/\q=q0):Tu f args p λ v h=>v=v0/\q0 h:=λ W h i s=>(t W h i s).mono λ e w' ⟨v,q,e1,⟨e2,e3⟩,m,h',i',x,hq⟩=>⟨v,e1,m,h',i',x,e2,e3 ▸ hq⟩
section
variable {V:VD} {st bb:Nat} {sb:Slc} {txg keep:Nat} {meta_:Bool}
set_option maxRecDepth 512 in
theorem text_fn (t:ByteArray) (h0:t.size≠0) (h1:t.size % 64=0) (h2:t.size<=256) (W:World):Fn 322 #[.string t] W (.bool true):=by
 refine ⟨?_⟩
 have e1:((t.size:Int) % 64 == 0)=true:=by simp;omega
 have e2:decide ((t.size:Int)<=256)=true:=by simp;omega
 have hne:t.toList.isEmpty=false:=ne_of_size (by omega)
 go_enter Tryz.func322,Tryz.ntmps322
 go_wp2_with fail
 go_ret
 exact Ret.mk rfl grown
theorem put1_tq (b3 b4 b8:Nat) (dn:Value) (N:Nat) (F:Nat->Nat->ByteArray) (i a z:Nat) (t:ByteArray) (ht:t.size=64*z) (hm:mayB V.s V.secs i a z=true) (hN:N+32<=1000000000000) :
  Tq 325 #[.agg #[.int .i64 i,.int .i64 a],.pointer (some ⟨b3,0,none⟩),.pointer (some ⟨b4,0,none⟩),.pointer (some ⟨b8,0,none⟩)] (star [BlkP b3 #[.pointer (some ⟨st,0,none⟩)] 110,BlkP b4 #[.string t] 9,BlkP st (stC V bb txg keep meta_ dn) 169,DevsP V N F]) λ v q =>
   v=.bool false/\q=star [BlkP b3 #[.pointer (some ⟨st,0,none⟩)] 110,BlkP b4 #[.string t] 9,BlkP st (stC V bb txg keep meta_ dn) 169,DevsP V (N+32) (putAt V.s F i a z t)]:=by
 refine Tq.of λ W h B0=>?_
 have B:=B0.flat
 simp only [List.append_nil] at B
 clear B0
 have VW:Tq 326 #[V.v,.agg #[.int .i64 i,.int .i64 a],.string t] (DevsP V N F) λ v q=>v=.tuple #[.int .i64 0,.int .i64 0]/\q=DevsP V (N+32) (putAt V.s F i a z t):=(vwrite_tu V N F i a z t ht hm hN).qv
 go_enter Tryz.func325,Tryz.ntmps325
 go_wp2_with fail
 (first | (with_reducible refine pl2 (.q [0,1,2,3,4,5] (.x [6] (.q [7,8,9,10,11] .d))) ?_) | refine pl1 (.q [0,1,2,3,4,5] (.x [6] (.q [7,8,9,10,11] .d))) ?_);simp only [Plan.run,pick,gZ,gS,gA,gN]
 (repeat go_big_quiet_step (exact qZ));refine nZ ?_
 refine btI ?_
 intro w1 B1
 clear B
 go_wp2_with fail
 refine (Bt.call VW).mono ?_
 rintro e w2 ⟨v,q,rfl,⟨rfl,rfl⟩,B2⟩
 dsimp only at B2 ⊢
 go_wp2_with fail
 dsimp only [Nx]
 (repeat go_big_quiet_step (exact qZ));refine nZ ?_
 rintro w3 hw3
 have B3:Bt W h [_,_,_,_,_] w3:=btCls hw3
 clear hw3
 go_wp2_with fail
 go_ret
 (first | apply fin_a | apply fin_b)
 exact ⟨⟨rfl,rfl⟩,(B3.drop.app [_,_,_,_]).fin_at 0 rfl⟩
end
def ptA (i a z lv txg:Nat) (t:ByteArray):Pt:=⟨i,a,0,0,false,z,lv,txg,sum4 t⟩
def ptB (i a j b z lv txg:Nat) (t:ByteArray):Pt:=⟨i,a,j,b,true,z,lv,txg,sum4 t⟩
theorem pt_notnone {p:Pt} (h:1<=p.birth):p.isNone=false:=by
 cases hn:p.isNone
 ·rfl
 ·have:=(ptEq_iff p Pt.none).1 hn
  rw [this] at h
  exact absurd h (by decide)
theorem Took.pos {s:Slc} {secs:Int} {ms ms':List MD} {size i a n:Nat} (h:goodG s secs) (t:Took s secs ms ms' size i a n) (hz:1<=size/\size<=4):1<=n:=by
 have h1:=takI_pos h t.lt hz
 have h2:=t.hn
 omega
section
variable {V:VD} {sb:Slc} {K:KS} {N:Nat} {F:Nat->Nat->ByteArray} {ms ms1 ms2:List MD} {i a n j b k z lv txg:Nat} {t:ByteArray}
theorem kept_took (g:goodG V.s V.secs) (sm:SameS sb V.s) (kp:Kept1 V.s V.secs F (usedM ms) K) (tk:Took sb V.secs ms ms1 z i a n) (hz:1<=z/\z<=4) (t:ByteArray):Kept1 V.s V.secs (putAt V.s F i a z t) (usedM ms1) K:=by
 have hn:=tk.hn
 rw [sm.tak] at hn
 exact (kp.put g (by rw [<-sm.len];exact tk.lt) hz t λ u u1 u2=>tk.free u u1 (by omega)).more λ g u h=>(tk.used g u).2 (.inl h)
theorem fit_of {i a j b z lv txg:Nat} {two:Bool} {t:ByteArray} (h1:i<=4) (h2:a<=40000) (h3:j<=4) (h4:b<=40000) (hz:z<=4) (hl:lv<=3) (ht:txg<=4294967295):Pt.fit ⟨i,a,j,b,two,z,lv,txg,sum4 t⟩:=by
 refine ⟨?_,?_⟩
 ·simp only [Pt.ok,withinL,List.all_cons,List.all_nil,Bool.and_true,Bool.and_eq_true,okN,decide_eq_true_eq]
  omega
 ·exact sums_ok zero4_ok _
theorem kept_free {s:Slc} {secs:Int} {F:Nat->Nat->ByteArray} {U:Nat->Nat->Prop} {K:KS} (h:goodG s secs) (kp:Kept1 s secs F U K) {i a:Nat} (hU:¬U i a):∀ q u,K q u->q.ag=(i:Int)->q.aa=(a:Int)->False:=by
 intro q u hq e1 e2
 obtain ⟨g',a',z',f1,f2,f3,h1,h2,h3⟩:=(kp.held q u hq).ok.in_ h
 have hp:=takI_pos h h1 h2
 refine hU (kp.used q u hq i a ⟨by omega,by omega,?_⟩)
 rw [e2,f1,f3,Int.toNat_natCast];omega
theorem kept_a (g:goodG V.s V.secs) (sm:SameS sb V.s) (kp:Kept1 V.s V.secs F (usedM ms) K) (tk:Took sb V.secs ms ms1 z i a n) (hz:1<=z/\z<=4) (ht:t.size=64*z) (hl:lv<=3) (hx:1<=txg/\txg<=4294967295) :
  Kept1 V.s V.secs (putAt V.s F i a z t) (usedM ms1) (K.add (ptA i a z lv txg t) t):=by
 have gb:goodG sb V.secs:=by
  obtain ⟨g1,g2,g3,g4,g5⟩:=g
  refine ⟨by rw [sm.len];exact g1,by rw [sm.len];exact g2,g3,g4,?_⟩
  intro k hk
  have:=g5 k (by rw [<-sm.len];exact hk)
  rw [sm.x,sm.y];exact this
 have hm:=tk.may (tk.pos gb hz)
 rw [sm.may] at hm
 haveI:Geo V.s V.secs:=⟨g⟩
 obtain ⟨⟨g0,g1⟩,_,a0,a1⟩:=may_in hm
 have hil:i < V.s.len:=by rw [<-sm.len];exact tk.lt
 have h4:=g.2.1
 have hn:=tk.hn
 rw [sm.tak] at hn
 refine (kept_took g sm kp tk hz t).add ⟨⟨by simp only [ptA];omega,by simp only [ptA];omega,hm,λ _=>⟨rfl,rfl⟩,(λ h=>by cases h)⟩,fit_of (j:=0) (b:=0) (by omega) (by omega) (by omega) (by omega) hz.2 hl hx.2,by simp only [ptA,Int.toNat_natCast];exact ht,rfl,?_⟩ (λ g u hu=>?_) ?_
 ·simp only [ptA,Int.toNat_natCast]
  exact held_put g F hil hz t
 ·obtain ⟨h1,h2,h3⟩:=hu
  simp only [ptA,Int.toNat_natCast] at h1 h2 h3
  rw [<-hn] at h3
  exact (tk.used g u).2 (.inr ⟨h1,h2,by omega⟩)
 ·have:=tk.pos gb hz
  exact λ q u hq e1 e2=>kept_free g kp (tk.free a (Nat.le_refl _) (by omega)) q u hq (by simpa only [ptA] using e1) (by simpa only [ptA] using e2)
theorem kept_b (g:goodG V.s V.secs) (sm:SameS sb V.s) (kp:Kept1 V.s V.secs F (usedM ms) K) (tk:Took sb V.secs ms ms1 z i a n) (tk2:Took sb V.secs ms1 ms2 z j b k) (hz:1<=z/\z<=4) (ht:t.size=64*z) (hl:lv<=3) (hx:1<=txg/\txg<=4294967295) :
  Kept1 V.s V.secs (putAt V.s (putAt V.s F i a z t) j b z t) (usedM ms2) (K.add (ptB i a j b z lv txg t) t):=by
 have gb:goodG sb V.secs:=by
  obtain ⟨g1,g2,g3,g4,g5⟩:=g
  refine ⟨by rw [sm.len];exact g1,by rw [sm.len];exact g2,g3,g4,?_⟩
  intro k hk
  have:=g5 k (by rw [<-sm.len];exact hk)
  rw [sm.x,sm.y];exact this
 have hp1:=tk.pos gb hz
 have hp2:=tk2.pos gb hz
 have hm:=tk.may hp1
 rw [sm.may] at hm
 have hm2:=tk2.may hp2
 rw [sm.may] at hm2
 haveI:Geo V.s V.secs:=⟨g⟩
 obtain ⟨⟨g0,g1⟩,_,a0,a1⟩:=may_in hm
 obtain ⟨⟨g0',g1'⟩,_,a0',a1'⟩:=may_in hm2
 have hil:i < V.s.len:=by rw [<-sm.len];exact tk.lt
 have hjl:j < V.s.len:=by rw [<-sm.len];exact tk2.lt
 have h4:=g.2.1
 have hn:=tk.hn
 have hk:=tk2.hn
 rw [sm.tak] at hn hk
 have hap:i=j->a+n<=b\/b+k<=a:=λ e=>by
  subst e
  rcases Nat.lt_or_ge b (a+n) with h1 | h1
  ·rcases Nat.lt_or_ge a (b+k) with h2 | h2
   ·rcases Nat.le_total a b with h3 | h3
    ·exact absurd ((tk.used i b).2 (.inr ⟨rfl,h3,h1⟩)) (tk2.free b (Nat.le_refl _) (by omega))
    ·exact absurd ((tk.used i a).2 (.inr ⟨rfl,Nat.le_refl _,by omega⟩)) (tk2.free a h3 h2)
   ·exact .inr h2
  ·exact .inl h1
 have k1:=kept_took g sm kp tk hz t
 refine (kept_took g sm k1 tk2 hz t).add ⟨⟨by simp only [ptB];omega,by simp only [ptB];omega,hm,(λ h=>by cases h),λ _=>⟨hm2,?_⟩⟩,fit_of (by omega) (by omega) (by omega) (by omega) hz.2 hl hx.2,by simp only [ptB,Int.toNat_natCast];exact ht,rfl,?_⟩ (λ g u hu=>?_) ?_
 ·simp only [ptB]
  rw [<-hn,<- hk]
  by_cases e:i=j
  ·have:=hap e;omega
  ·omega
 ·simp only [ptB,Int.toNat_natCast]
  refine held_other g hil hjl hz hz t (λ e u hu hu'=>?_) (held_put g F hil hz t)
  subst e
  rw [takI_nat hil hz] at hn hk
  rw [<-hn] at hu
  rw [<-hk] at hu'
  have:=hap rfl
  omega
 ·obtain ⟨h1,h2,h3⟩:=hu
  simp only [ptB,Int.toNat_natCast] at h1 h2 h3
  rw [<-hn] at h3
  exact (tk2.used g u).2 (.inl ((tk.used g u).2 (.inr ⟨h1,h2,by omega⟩)))
 ·exact λ q u hq e1 e2=>kept_free g kp (tk.free a (Nat.le_refl _) (by omega)) q u hq (by simpa only [ptB] using e1) (by simpa only [ptB] using e2)
end
theorem SameS.good {a b:Slc} (sm:SameS a b) {secs:Int} (g:goodG b secs):goodG a secs:=by
 obtain ⟨g1,g2,g3,g4,g5⟩:=g
 refine ⟨by rw [sm.len];exact g1,by rw [sm.len];exact g2,g3,g4,?_⟩
 intro k hk
 have:=g5 k (by rw [<-sm.len];exact hk)
 rw [sm.x,sm.y];exact this
theorem RwP.blk {t:TypeId} {z g n:Nat} {L:List (List Value)} {h:Hl} (r:RwP t z g n L h) (hn:L.length=n):BlkP g L.flatten.toArray t h:=by
 obtain ⟨cur,b,h1,h2,h3,h4⟩:=r
 have:cur=L.flatten.toArray:=by
  rw [<-h2,hn,<- h1,<- Array.length_toList,List.take_length]
 rw [<-this];exact b
section
variable {V:VD} {st bb:Nat} {sb:Slc} {txg keep:Nat} {meta_:Bool}
theorem Bt.shut0 {W w:World} {h:Hl} {l:List SP} {K:KS} {c N:Nat} {F:Nat->Nat->ByteArray} {ms:List MD} {es:List Nat} {dn:Value} (ok:StOk V sb K c N F ms) (B:Bt W h (BlkP st (stC V bb txg keep meta_ dn) 169::DnP dn c::DevsP V N F::GMP sb::BookC bb sb V.secs ms es::l) w):Bt W h (StP V st bb sb txg keep meta_ K c::l) w:=(B.app [_,_,_,_,_]).head λ h s=>⟨dn,N,F,ms,es,ok,s⟩
theorem DnP.less {dn:Value} {c c':Nat} (hc:c'<=c) {h:Hl} (p:DnP dn c h):DnP dn c' h:=by
 rcases p with ⟨h1,h2⟩ | ⟨d,fx,bad,bn,bcap,born,e,⟨h1,h2⟩,s⟩
 ·exact .inl ⟨h1,by omega⟩
 ·exact .inr ⟨d,fx,bad,bn,bcap,born,e,⟨h1,by omega⟩,s⟩
theorem StOk.less {K:KS} {c c' N:Nat} {F:Nat->Nat->ByteArray} {ms ms':List MD} (o:StOk V sb K c N F ms) (hc:c'<=c) (a:Alike ms ms'):StOk V sb K c' N F ms':=⟨o.same,o.kept.more λ g u h=>(a.used g u).2 h,by have:=o.bd;omega⟩
def CloP (V:VD) (st bb txg keep:Nat) (meta_:Bool) (b3 b4:Nat) (t:ByteArray) (dn:Value) (N:Nat) (F:Nat->Nat->ByteArray):SP:=star [BlkP b3 #[.pointer (some ⟨st,0,none⟩)] 110,BlkP b4 #[.string t] 9,BlkP st (stC V bb txg keep meta_ dn) 169,DevsP V N F]
theorem plc_one {L:List (Nat × Nat)}:∀ x∈L.map λ p=>plcL p.1 p.2,∀ v∈x,v.oneCell'=true:=by
 intro x hx v hv
 obtain ⟨p,_,rfl⟩:=List.mem_map.1 hx
 simp only [plcL,List.mem_cons,List.not_mem_nil,or_false] at hv
 rcases hv with rfl | rfl <;> rfl
theorem plc_two {L:List (Nat × Nat)}:∀ x∈L.map λ p=>plcL p.1 p.2,x.length=2:=by
 intro x hx
 obtain ⟨p,_,rfl⟩:=List.mem_map.1 hx
 rfl
theorem stay_all (xs:List (List Value)):stay (λ _=>false) xs=xs:=by
 unfold stay
 have e:(List.range xs.length).filter (λ k=>!(λ _=>false) k)=List.range xs.length:=List.filter_eq_self.2 λ _ _=>rfl
 rw [e]
 refine List.ext_getElem? λ k=>?_
 rw [List.getElem?_map]
 rcases Nat.lt_or_ge k xs.length with h | h
 ·rw [List.getElem?_range h,Option.map_some,List.getElem?_eq_getElem h,getElem!_pos xs k h]
 ·rw [List.getElem?_eq_none (by simpa using h),List.getElem?_eq_none h];rfl
theorem del_tq (b3 b4 b8 b z:Nat) (dn:Value) (t:ByteArray) (L:List (Nat × Nat)) (N:Nat) (F:Nat->Nat->Nat->ByteArray) (hn:L.length<=2) (ht:t.size=64*z) (hN:N+64<=1000000000000)
  (hm:∀ k p,L[k]?=some p->mayB V.s V.secs p.1 p.2 z=true/\F (k+1)=putAt V.s (F k) p.1 p.2 z t) :
  Tq 324 #[.slice (some ⟨b,0,none⟩) L.length L.length,.func (.func 325) #[] #[.pointer (some ⟨b3,0,none⟩),.pointer (some ⟨b4,0,none⟩),.pointer (some ⟨b8,0,none⟩)]] (star [RwP 45 2 b L.length (L.map λ p=>plcL p.1 p.2),CloP V st bb txg keep meta_ b3 b4 t dn N (F 0)]) λ v q =>
   v=.slice (some ⟨b,0,none⟩) L.length L.length/\q=star [RwP 45 2 b L.length (L.map λ p=>plcL p.1 p.2),CloP V st bb txg keep meta_ b3 b4 t dn (N+32*L.length) (F L.length)]:=by
 have D:=delL b L.length (L.map λ p=>plcL p.1 p.2) (by simp;omega) plc_two plc_one 325 (by kernel_rfl) #[.pointer (some ⟨b3,0,none⟩),.pointer (some ⟨b4,0,none⟩),.pointer (some ⟨b8,0,none⟩)] (λ _=>false) (λ k=>CloP V st bb txg keep meta_ b3 b4 t dn (N+32*k) (F k)) (λ k x hx=>by
  rw [List.getElem?_map] at hx
  obtain ⟨p,hp,rfl⟩:=Option.map_eq_some_iff.1 hx
  have hk:k < L.length:=(List.getElem?_eq_some_iff.1 hp).1
  obtain ⟨h1,h2⟩:=hm k p hp
  have:=(put1_tq (V:=V) (st:=st) (bb:=bb) (txg:=txg) (keep:=keep) (meta_:=meta_) b3 b4 b8 dn (N+32*k) (F k) p.1 p.2 z t ht h1 (by omega)).u
  rw [<-h2] at this
  exact this)
 rw [stay_all] at D
 simp only [List.length_map] at D
 intro W h hw hs
 refine (D W h hw hs).mono ?_
 rintro e w' ⟨v,e1,m,h',i,x,e2,L',hL1,hL2,s⟩
 have hL:L'=L.map λ p=>plcL p.1 p.2:=by rw [<-hL1,List.take_of_length_le (by omega)]
 subst hL
 exact ⟨v,_,e1,⟨e2,rfl⟩,m,h',i,x,s⟩
theorem fin_err {W w:World} {h:Hl} {K:KS} {c N:Nat} {F:Nat->Nat->ByteArray} {ms ms':List MD} {es':List Nat} {dn:Value} {a b d e:SP} (ok:StOk V sb K c N F ms) (hal:Alike ms ms') (B:Bt W h [BlkP st (stC V bb txg keep meta_ dn) 169,GMP sb,BookC bb sb V.secs ms' es',a,b,d,e,DnP dn c,DevsP V N F] w):Turns W h (StP V st bb sb txg keep meta_ K (c - 1)) w:=by
 have B1:Bt W h (DnP dn c::_) w:=((((B.front (i:=2) rfl).front (i:=2) rfl).front (i:=8) rfl).front (i:=8) rfl)
 have B2:Bt W h (DnP dn (c - 1)::_) w:=B1.head λ h p=>p.less (by omega)
 exact (Bt.shut0 (ok.less (by omega) hal) (B2.front (i:=4) rfl)).fin_at 0 rfl
theorem fin_ok {W w:World} {h:Hl} {K:KS} {c N d bn bcap:Nat} {bad:Option Addr} {born:List (List Value)} {F:Nat->Nat->ByteArray} {ms:List MD} {es:List Nat} {x0 x3 x4 x7 x10 x11:SP} (ok:StOk V sb K (c - 1) N F ms) (hc:1<=c) (hb:bn+c<=1000000000)
  (B:Bt W h [x0,BlkP d #[.int .i64 (0:Nat),.slice bad (bn+1) bcap] 268,SlP 50 12 bad (bn+1) bcap born,x3,x4,BlkP st (stC V bb txg keep meta_ (dnV d)) 169,DevsP V N F,x7,GMP sb,BookC bb sb V.secs ms es,x10,x11] w):Turns W h (StP V st bb sb txg keep meta_ K (c - 1)) w :=
 (Bt.shut_st (fx:=0) ok ⟨rfl,by omega⟩ ((((((B.front (i:=9) rfl).front (i:=9) rfl).front (i:=8) rfl).front (i:=5) rfl).front (i:=5) rfl).front (i:=8) rfl)).fin_at 0 rfl
end
section
variable {P:Program} {ops:Array Oper} {md:Region.Mode} {Q:Exit->Act->World->Prop} {C H:World->Prop}
theorem anyH_mono {loud soft:List Nat} {H':World->Prop} (hs:∀ w,H' w->H w):∀ (f:Nat) (C:World->Prop) (listed:Array Bool) (a:Act),AnyH P md ops loud soft H' Q f C listed a->AnyH P md ops loud soft H Q f C listed a
 | 0,_,_,_,h=>h
 | f+1,C,listed,a,h=>⟨h.1,λ i hi=>by
   have h1:=h.2 i hi
   split at h1
   ·rename_i hl
    rw [if_pos hl]
    intro w hw
    exact wpOp_mono (λ a' w' ⟨D,hD,h2,h3⟩=>⟨D,hD,λ hi v hv=>hs _ (h2 hi v hv),anyH_mono hs f D _ a' h3⟩) (h1 w hw)
   ·rename_i hl
    rw [if_neg hl]
    exact qOp_mono (λ a' h3=>anyH_mono hs f C _ a' h3) h1⟩
def Plan.runY (P:Program) (ops:List Oper) (Q:Exit->Act->World->Prop) (soft:List Nat):Plan->(World->Prop)->(World->Prop)->Act->Prop
 | .d,_,C,a=>∀ w,C w->Q .normal a w
 | .q l n,H,C,a=>wpQuiet P ops.toArray C (n.runY P ops Q soft H C) (pick ops l) a
 | .f l n,H,C,a=>wpQuiet P ops.toArray H (n.runY P ops Q soft H C) (pick ops l) a
 | .x l n,H,C,a=>∀ w,C w->wpList P ops.toArray (Nx λ a' w'=>∃ H':World->Prop,(GC H'/\∀ v,H' v->H v)/\(l.all soft.contains=true->H' w')/\n.runY P ops Q soft H' (Cls w') a') (pick ops l) a w
 | .y i j n m,H,C,a=>(∀ w,C w->wpList P ops.toArray (Nx λ a' w'=>∃ H':World->Prop,(GC H'/\∀ v,H' v->H v)/\(soft.contains i=true->H' w')/\n.runY P ops Q soft H' (Cls w') a') (pick ops [i]) a w)/\∀ w,C w->wpList P ops.toArray (Nx λ a' w'=>∃ H':World->Prop,(GC H'/\∀ v,H' v->H v)/\(soft.contains j=true->H' w')/\m.runY P ops Q soft H' (Cls w') a') (pick ops [j]) a w
 | _,_,_,_=>False
def Plan.okY (md:Region.Mode) (ops:Array Oper) (loud soft:List Nat):Bool->Plan->Array Bool->Bool
 | _,.d,listed=>(Region.ready md ops listed).isEmpty
 | b,.q l n,listed=>Go.Proofs.YtlfjdjndhcmliaaGreatDoor.okH md ops loud soft true (n.okY md ops loud soft b) l listed
 | b,.f l n,listed=>b && Go.Proofs.YtlfjdjndhcmliaaGreatDoor.okH md ops loud soft false (n.okY md ops loud soft b) l listed
 | b,.x [i] n,listed=>decide (Region.ready md ops listed=[i]) && loud.contains i && n.okY md ops loud soft (b && soft.contains i) (listed.setIfInBounds i true)
 | b,.y i j n m,listed=>(Region.ready md ops listed).all (λ k=>k == i || k == j) && !(Region.ready md ops listed).isEmpty && loud.contains i && loud.contains j && decide (n.size=m.size) && n.okY md ops loud soft (b && soft.contains i) (listed.setIfInBounds i true) && m.okY md ops loud soft (b && soft.contains j) (listed.setIfInBounds j true)
 | _,_,_=>false
theorem anyY_of_plan {loud soft:List Nat} (hsel:∀ (j:Nat) (o:Oper) cs b,ops[j]?=some o->o.op≠.select cs b):∀ (t:Plan) (b:Bool) (H C:World->Prop) (listed:Array Bool) (a:Act),GC H->(b=true->∀ w,C w->H w)->Closed md ops listed->t.okY md ops loud soft b listed=true->t.runY P ops.toList Q soft H C a ->
  AnyH P md ops loud soft H Q t.size C listed a
 | .d,_,H,C,listed,a,_,_,_,hB,h=>⟨by simpa [Plan.okY] using hB,h⟩
 | .q l n,b,H,C,listed,a,hH,hC,hcl,hB,h=>anyH_q (hard:=true) hsel (λ _=>rfl) (λ h=>by cases h) (λ listed' a' hc hB' h'=>anyY_of_plan hsel n b H C listed' a' hH hC hc hB' h') l listed a hcl hB (by simpa [Plan.runY] using h)
 | .f l n,b,H,C,listed,a,hH,hC,hcl,hB,h=>by
  simp only [Plan.okY,Bool.and_eq_true] at hB
  exact anyH_q (hard:=false) hsel (λ h=>by cases h) (λ _=>⟨rfl,hC hB.1⟩) (λ listed' a' hc hB' h'=>anyY_of_plan hsel n b H C listed' a' hH hC hc hB' h') l listed a hcl hB.2 (by simpa [Plan.runY] using h)
 | .x [i] n,b,H,C,listed,a,hH,hC,hcl,hB,h=>by
  simp only [Plan.okY,Bool.and_eq_true,decide_eq_true_eq] at hB
  obtain ⟨⟨hr,hl⟩,hn⟩:=hB
  have hri:i∈Region.ready md ops listed:=by rw [hr];simp
  obtain ⟨_,oi,hoi,_⟩:=mem_ready.1 hri
  have hoi':ops.toList[i]?=some oi:=by simpa using hoi
  rw [show (Plan.x [i] n).size=n.size+1 by simp [Plan.size,Nat.add_comm]]
  refine ⟨by rw [hr];simp,λ j hj=>?_⟩
  obtain rfl:j=i:=by rw [hr] at hj;simpa using hj
  rw [if_pos (by simpa using hl)]
  intro w hw
  have h1:wpList P ops (Nx λ a' w'=>∃ H':World->Prop,(GC H'/\∀ v,H' v->H v)/\([j].all soft.contains=true->H' w')/\n.runY P ops.toList Q soft H' (Cls w') a') (pick ops.toList [j]) a w:=by simpa [Plan.runY] using h w hw
  simp only [pick,hoi',List.append_nil] at h1
  refine wpOp_mono (λ a' w' hh=>?_) (wpOp_of_list hoi h1)
  obtain ⟨H',⟨hG,hsub⟩,h2,h3⟩:∃ H':World->Prop,(GC H'/\∀ v,H' v->H v)/\([j].all soft.contains=true->H' w')/\n.runY P ops.toList Q soft H' (Cls w') a':=hh
  have hs:j∈soft->∀ v,Cls w' v->H' v:=λ hj v hv=>hG _ _ (h2 (by simpa using hj)) hv
  exact ⟨Cls w',cls_self w',λ hj v hv=>hsub v (hs hj v hv),anyH_mono hsub _ _ _ _ (anyY_of_plan hsel n _ H' (Cls w') _ a' hG (λ hb=>hs (by simp only [Bool.and_eq_true] at hb;simpa using hb.2)) (hcl.set hri) hn h3)⟩
 | .y i j n m,b,H,C,listed,a,hH,hC,hcl,hB,h=>by
  simp only [Plan.okY,Bool.and_eq_true,decide_eq_true_eq] at hB
  obtain ⟨⟨⟨⟨⟨⟨hr,he⟩,hli⟩,hlj⟩,hz⟩,hn⟩,hm⟩:=hB
  simp only [Plan.runY] at h
  rw [show (Plan.y i j n m).size=n.size+1 by simp [Plan.size]]
  refine ⟨λ e=>by rw [e] at he;simp at he,λ k hk=>?_⟩
  have hk2:=List.all_eq_true.1 hr k hk
  simp only [Bool.or_eq_true,beq_iff_eq] at hk2
  obtain ⟨_,ok,hok,_⟩:=mem_ready.1 hk
  have hok':ops.toList[k]?=some ok:=by simpa using hok
  rcases hk2 with rfl | rfl
  ·rw [if_pos (by simpa using hli)]
   intro w hw
   have h1:=h.1 w hw
   simp only [Array.toArray_toList,pick,hok',List.append_nil] at h1
   refine wpOp_mono (λ a' w' hh=>?_) (wpOp_of_list hok h1)
   obtain ⟨H',⟨hG,hsub⟩,h2,h3⟩:∃ H':World->Prop,(GC H'/\∀ v,H' v->H v)/\(soft.contains k=true->H' w')/\n.runY P ops.toList Q soft H' (Cls w') a':=hh
   have hs:k∈soft->∀ v,Cls w' v->H' v:=λ hj v hv=>hG _ _ (h2 (by simpa using hj)) hv
   exact ⟨Cls w',cls_self w',λ hj v hv=>hsub v (hs hj v hv),anyH_mono hsub _ _ _ _ (anyY_of_plan hsel n _ H' (Cls w') _ a' hG (λ hb=>hs (by simp only [Bool.and_eq_true] at hb;simpa using hb.2)) (hcl.set hk) hn h3)⟩
  ·rw [if_pos (by simpa using hlj)]
   intro w hw
   have h1:=h.2 w hw
   simp only [Array.toArray_toList,pick,hok',List.append_nil] at h1
   refine wpOp_mono (λ a' w' hh=>?_) (wpOp_of_list hok h1)
   obtain ⟨H',⟨hG,hsub⟩,h2,h3⟩:∃ H':World->Prop,(GC H'/\∀ v,H' v->H v)/\(soft.contains k=true->H' w')/\m.runY P ops.toList Q soft H' (Cls w') a':=hh
   have hs:k∈soft->∀ v,Cls w' v->H' v:=λ hj v hv=>hG _ _ (h2 (by simpa using hj)) hv
   rw [hz]
   exact ⟨Cls w',cls_self w',λ hj v hv=>hsub v (hs hj v hv),anyH_mono hsub _ _ _ _ (anyY_of_plan hsel m _ H' (Cls w') _ a' hG (λ hb=>hs (by simp only [Bool.and_eq_true] at hb;simpa using hb.2)) (hcl.set hk) hm h3)⟩
 | .x [] _,_,_,_,_,_,_,_,_,hB,_ | .x (_::_::_) _,_,_,_,_,_,_,_,_,hB,_ | .c _ _,_,_,_,_,_,_,_,_,hB,_ | .g _ _,_,_,_,_,_,_,_,_,hB,_ | .z _ _ _ _,_,_,_,_,_,_,_,_,hB,_=>by simp [Plan.okY] at hB
theorem wp_region_planY {id:Nat} {a:Act} {w:World} {l:List Oper} (H:World->Prop) (soft:List Nat) (t:Plan) (hH:GC H) (h0:H w) (hm:P.follows .mixedOrders=true) (hB:(Region.noSelect l.toArray && decide (t.size=l.length) && t.okY .any l.toArray t.louds soft true (Array.replicate l.length false))=true)
  (h:t.runY P l Q soft H (Cls w) a):(Code.region id l.toArray true).wp P Q a w:=by
 simp only [Bool.and_eq_true,decide_eq_true_eq] at hB
 obtain ⟨⟨hs,hz⟩,hk⟩:=hB
 refine wp_region_any hm (wpAny_of_anyH (loud:=t.louds) (soft:=soft) (H:=H) _ (Cls w) _ _ _ ⟨⟨w.drawn+1,#[]⟩,by simp only [gr,grow_empty];rfl⟩ ?_)
 have:=anyY_of_plan (md:=.any) (Q:=Q) (Region.noSelect_spec hs) t true H (Cls w) (Array.replicate l.length false) a hH (λ _ v hv=>hH _ _ h0 hv) (λ j oj _ hl=>by rw [getD_replicate_false] at hl;cases hl) hk (by simpa using h)
 rw [hz] at this
 simpa using this
end
theorem cells_star {l:List SP} {w:World} (i:In (star l) w) {k n:Nat} {cs:Array Value} {t:TypeId} (e:l[k]?=some (BlkP n cs t)):CellsIn w n cs:=by
 obtain ⟨h,s,hw⟩:=i.ex
 obtain ⟨h1,p,s1⟩:=s.get e
 exact ⟨t,(hw.sub s1).get _ _ p⟩
theorem hin_app {l l':List SP} {v:World} (h:HIn (star (l++l')) v):HIn (star l) v:=by
 obtain ⟨x,rfl⟩:=h
 obtain ⟨hh,s,hw⟩:=x.h.ex
 obtain ⟨h1,h2,a,b,c,d,e⟩:=star.app s
 exact HIn.of ⟨h1,a,hw.sub c⟩
theorem fin_nil {V:VD} {st bb:Nat} {sb:Slc} {txg keep:Nat} {meta_:Bool} {W w:World} {h:Hl} {K:KS} {c N d bcap:Nat} {bad:Option Addr} {born:List (List Value)} {F:Nat->Nat->ByteArray} {ms:List MD} {es:List Nat} {x0 x3 x4 x7 x10 x11:SP} (ok:StOk V sb K (c - 1) N F ms) (hc:1<=c) (hb:c<=1000000000)
  (B:Bt W h [x0,BlkP st (stC V bb txg keep meta_ (dnV d)) 169,BlkP d #[.int .i64 (0:Nat),.slice bad (0+1) bcap] 268,x3,x4,DevsP V N F,x7,GMP sb,BookC bb sb V.secs ms es,x10,x11,SlP 50 12 bad (0+1) bcap born] w):Turns W h (StP V st bb sb txg keep meta_ K (c - 1)) w :=
 (Bt.shut_st (fx:=0) ok ⟨rfl,by omega⟩ ((((((B.front (i:=8) rfl).front (i:=8) rfl).front (i:=7) rfl).front (i:=11) rfl).front (i:=6) rfl).front (i:=6) rfl)).fin_at 0 rfl
end Go.Proofs.YtlfjdjndhcmliaaGreatDoor
