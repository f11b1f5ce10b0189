/- WholeGeoms, part 12. -/
import Derived.Test.YtlfjdjndhcmliaaGreatDoorA11
set_option maxRecDepth 100000
set_option maxHeartbeats 4000000
set_option linter.all false
namespace Go.Proofs.YtlfjdjndhcmliaaGreatDoor
open Go.RowKit Go.Sort
theorem build_ix (w:World) (l:Nat->Pt):(Instr.build 291 #[(0,.agg (cs4 l))]).run Tryz.prog w=.ok (.agg (cs4 l)) w:=by kernel_rfl
section
variable {ops:Array Oper} {rest:List Oper} {a:Act} {d:Option Tmp} {ty:TypeId} {pos:String} {aft:Array Edge} {C:World->Prop} {K:Act->Prop}
theorem wpQuiet_value {o:Oper} {v:Value} (hg:o.guard=none) (hr:∀ w,C w->(execOp a.eval o).run Tryz.prog w=.ok (.value v) w) (h:wpQuiet Tryz.prog ops C K rest (a.put o.dst v)):wpQuiet Tryz.prog ops C K (o::rest) a:=by
 unfold wpQuiet
 rw [if_pos (by simp [Region.wanted,hg])]
 refine ⟨v,λ w hw=>?_,h⟩
 unfold Oper.quietAt
 rw [hr w hw]
 exact ⟨rfl,rfl⟩
theorem wpQuiet_build_ix {x:Operand} {l:Nat->Pt} (hx:a.eval x=.agg (cs4 l)) (h:wpQuiet Tryz.prog ops C K rest (a.put d (.agg (cs4 l)))):wpQuiet Tryz.prog ops C K ({ dst:=d,op:=.build 291 #[(0,x)],type:=ty,pos:=pos,after:=aft,guard:=none }::rest) a:=by
 refine wpQuiet_value (v:=.agg _) rfl (λ w hw=>?_) h
 simp only [execOp,List.map_toArray,List.map_cons,List.map_nil,hx,Sem.run_bind,build_ix w l,Result.andThen_ok,Sem.run_pure]
theorem wpQuiet_build_nd {x y:Operand} {z:Int} {p:Pt} (hx:a.eval x=.int .i64 z) (hy:a.eval y=.agg p.cs) (h:wpQuiet Tryz.prog ops C K rest (a.put d (.agg (Nd.mk z p).cs))):wpQuiet Tryz.prog ops C K ({ dst:=d,op:=.build 52 #[(0,x),(1,y)],type:=ty,pos:=pos,after:=aft,guard:=none }::rest) a:=by
 refine wpQuiet_value (v:=.agg _) rfl (λ w hw=>?_) h
 simp only [execOp,List.map_toArray,List.map_cons,List.map_nil,hx,hy,Sem.run_bind,build_nd w z p,Result.andThen_ok,Sem.run_pure]
theorem run_nilput (b : Nat) (x : Operand) (w : World) : (execOp (λ _ => .func (.method "Put") #[stV b] #[]) { dst := d, op := .nilCheck x, type := ty, pos := pos, after := aft, guard := none }).run Tryz.prog w = .ok (.value (.func (.method "Put") #[stV b] #[])) w := by kernel_rfl
theorem wpQuiet_nilput {x : Operand} {b : Nat} (hx : a.eval x = .func (.method "Put") #[stV b] #[]) (h : wpQuiet Tryz.prog ops C K rest (a.put d (.func (.method "Put") #[stV b] #[]))) : wpQuiet Tryz.prog ops C K ({ dst := d, op := .nilCheck x, type := ty, pos := pos, after := aft, guard := none } :: rest) a := by
 refine wpQuiet_value (v := .func (.method "Put") #[stV b] #[]) rfl (λ w hw => ?_) h
 refine Eq.trans ?_ (run_nilput b x w (d:=d) (ty:=ty) (pos:=pos) (aft:=aft))
 simp only [execOp,hx]
end
def RP (S:KS->Nat->SP) (K:KS) (c:Nat) (P:Pt->KS->Prop) (v:Value) (q:SP):Prop :=
 (∃ e:Int,e≠0/\v=.tuple #[.agg Pt.none.cs,.int .i64 e]/\q=S K c)\/∃ p K',v=.tuple #[.agg p.cs,.int .i64 0]/\q=S K' c/\K.le K'/\P p K'
def RN (S:KS->Nat->SP) (K:KS) (c:Nat) (P:Nd->KS->Prop) (v:Value) (q:SP):Prop :=
 (∃ e:Int,e≠0/\v=.tuple #[.agg Nd.none.cs,.int .i64 e]/\q=S K c)\/∃ p K',v=.tuple #[.agg p.cs,.int .i64 0]/\q=S K' c/\K.le K'/\P p K'
section
variable {st:Nat} {S:KS->Nat->SP} (T:Sto st S) (K:KS) (c:Nat)
include T
theorem put_tq (l:Nat->Pt) [Fit4 l] (lv:Nat) (hl:lv<=3) (hc:1<=c) (hn:ptsEq l none4=false):Tq 170 #[stV st,.agg (cs4 l),.int .i64 lv] (S K c) (RP S K (c - 1) λ p K'=>p.isNone=false/\p.level=lv/\K' p (idxS l)):=by
 have hz:=(idx_ext l).1
 haveI:EqlTy 265 (cs4 l) (cs4 none4) false:=by have:=eqlPts l none4;rw [hn] at this;exact this
 clear hn
 have P:=T.put K c (idxS l) lv hc hl (by omega) (by omega) (by omega)
 refine Tq.of λ W h B=>?_
 go_enter Tryz.func170,Tryz.ntmps170
 go_wp2_with (first | ((with_reducible apply wpList_load);(·exact rfl);(·exact ii)) | (with_reducible apply wpList_build0) | ((with_reducible apply wpList_eql);(·exact rfl);(·exact rfl);(·exact ii)))
 (first | (with_reducible refine pl2 (.q [0,1,2,3,4,5,6,7] (.x [8] (.q [9,10] (.x [11] (.q [12] .d))))) ?_) | refine pl1 (.q [0,1,2,3,4,5,6,7] (.x [8] (.q [9,10] (.x [11] (.q [12] .d))))) ?_);simp only [Plan.run,pick,gZ,gS,gA,gN]
 go_frame
 (repeat (first | ((with_reducible apply wpQuiet_build_ix);(·exact rfl);go_frame) | ((with_reducible apply wpQuiet_build_nd);(·exact rfl);(·exact rfl);go_frame) | ((with_reducible apply wpQuiet_nilput);(·exact rfl);go_frame) | ((with_reducible apply wpQuiet_load);(·exact rfl);(·rintro _ ⟨gq,rfl⟩;exact ii);go_frame) | go_big_quiet_step (exact qZ)));refine nZ ?_
 rintro w2 hw2
 have B2:=btCls hw2
 clear hw2
 go_wp2_with fail
 refine (Bt.call P).mono ?_
 rintro e w3 ⟨v,q,rfl,hR,B3⟩
 dsimp only at B3 ⊢
 rcases hR with ⟨e,he,rfl,rfl⟩ | ⟨p,rfl,⟨hp,hlv⟩,rfl⟩
 ·go_wp2_with fail
  dsimp only [Nx]
  (repeat go_big_quiet_step (exact qZ));refine nZ ?_
  refine btI ?_;intro w2 B2;go_wp2_with fail;dsimp only [Nx];(repeat go_big_quiet_step (exact qZ));refine nZ ?_;(first | (rintro w3 hw3;have B3:=btCls hw3;clear hw3) | rintro g3);go_wp2_with fail
  (refine bodyPost_ret (rc12 rfl _ _ _ _ rfl ii) rfl ?_)
  exact ⟨_,_,rfl,.inl ⟨e,he,rfl,rfl⟩,Bt.fin⟩
 ·have Hp:=Lib.hid hp
  have Hl:=Lib.hid hlv
  clear hp hlv
  go_wp2_with fail
  dsimp only [Nx]
  (repeat go_big_quiet_step (exact qZ));refine nZ ?_
  refine btI ?_;intro w2 B2;go_wp2_with fail;dsimp only [Nx];(repeat go_big_quiet_step (exact qZ));refine nZ ?_;(first | (rintro w3 hw3;have B3:=btCls hw3;clear hw3) | rintro g3);go_wp2_with fail
  (refine bodyPost_ret (rc12 rfl _ _ _ _ rfl ii) rfl ?_)
  exact ⟨_,_,rfl,.inr ⟨p,_,rfl,rfl,K.le_add _ _,Hp.out,Hl.out,K.add_at _ _⟩,Bt.fin⟩
theorem puta_tq (l:Nat->Pt) [Fit4 l] (lv:Nat) (hl:lv<=3) (hc:1<=c):Tq 170 #[stV st,.agg (cs4 l),.int .i64 lv] (S K c) (RP S K (c - 1) λ p K'=>ptsEq l none4=true/\p=Pt.none\/p.isNone=false/\p.level=lv/\K' p (idxS l)):=by
 cases hn:ptsEq l none4
 ·exact (put_tq T K c l lv hl hc hn).mono λ v q h=>⟨q,by
   rcases h with h | ⟨p,K',a,b,c,d⟩
   ·exact .inl h
   ·exact .inr ⟨p,K',a,b,c,.inr d⟩,λ _ h=>h⟩
 ·haveI:EqlTy 265 (cs4 l) (cs4 none4) true:=by have:=eqlPts l none4;rw [hn] at this;exact this
  have Hn:=Lib.hid hn
  clear hn
  refine Tq.of λ W h B=>?_
  go_enter Tryz.func170,Tryz.ntmps170
  go_wp2_with (first | ((with_reducible apply wpList_load);(·exact rfl);(·exact ii)) | (with_reducible apply wpList_build0) | ((with_reducible apply wpList_eql);(·exact rfl);(·exact rfl);(·exact ii)))
  (refine bodyPost_ret (rc12 rfl _ _ _ _ rfl ii) rfl ?_)
  exact ⟨_,_,rfl,.inr ⟨Pt.none,K,rfl,rfl,KS.le.refl K,.inl ⟨by first | rfl | trivial,rfl⟩⟩,(Bt.fin (p:=S K c)).mono λ h q=>T.less _ _ _ (by omega) h q⟩
end
instance (priority:=low) arr4In (W:World) (b:Nat) (l:Nat->Pt) [k:CellsIn W b (cs4 l)]:Arr4 b l W:=by
 obtain ⟨t,e⟩:=k.get
 exact ⟨k.old,t,e⟩
theorem byteAt_pad (s:ByteArray) (j:Nat):byteAt (padS s 64) j=byteAt s j:=by
 unfold padS
 rw [byteAt_cat,zerosB_at]
 split
 ·rfl
 ·rw [byteAt_ge (by omega)]
theorem padS_facts {s:ByteArray} (h0:s.size≠0) (h2:s.size<=256):(padS s 64).size≠0/\(padS s 64).size % 64=0/\(padS s 64).size<=256:=by
 unfold padS
 rw [cat_size,zerosB_size]
 omega
theorem ne_none4 {l:Nat->Pt} {k:Nat} {p:Pt} (hk:k < 4) (hp:p.isNone=false):ptsEq (upd l k p) none4=false:=by
 cases h:ptsEq (upd l k p) none4
 ·rfl
 ·have:=(ptsEq_iff _ _).1 h k hk
  have e:upd l k p k=p:=if_pos rfl
  rw [e] at this
  rw [this] at hp
  exact absurd hp (by rw [show none4 k=Pt.none from rfl,Pt.none_isNone];decide)
section
variable {st:Nat} {S:KS->Nat->SP} (T:Sto st S)
include T
theorem Sto.fit4 {K:KS} {c:Nat} {W w:World} {h:Hl} {L:List SP} [B:Bt W h L w] [m:MemL L (S K c)] {l:Nat->Pt} (hf:Fit4 l) {n k:Nat} {p:Pt} {g:Nat->UInt8} (t:Tr K n p g) (hp:p.isNone=false):Fit4 (upd l k p):=by
 refine ⟨λ j=>?_⟩
 by_cases e:j=k
 ·subst e
  have e2:upd l j p j=p:=if_pos rfl
  rw [e2]
  rcases t.lv with rfl | ⟨_,_,t',ht⟩
  ·rw [Pt.none_isNone] at hp;cases hp
  ·obtain ⟨i,e3⟩:=m.e
   obtain ⟨h0,q,_⟩:=B.mem e3
   exact (T.fit K c h0 p t' q ht).h
 ·have e2:upd l k p j=l j:=if_neg e
  rw [e2]
  exact hf.h j
theorem set0_tq (K:KS) (c:Nat) (p:Pt) (g:Nat->UInt8) (s:ByteArray) (hc:1<=c) (h0:s.size≠0) (h2:s.size<=256):Tq 171 #[stV st,.agg p.cs,.int .i64 0,.int .i64 0,.string s] (S K c) (RP S K (c - 1) λ p' K'=>p'.isNone=false/\Tr K' 0 p' (putB g 0 s)):=by
 haveI:Sz4 s:=⟨by omega⟩
 have HD:=data_fn s
 unfold dataS at HD
 rw [if_pos h2] at HD
 obtain ⟨f0,f4,f2⟩:=padS_facts h0 h2
 have P:=T.put K c (padS s 64) 0 hc (by omega) f0 f4 f2
 have hne:s.toList.isEmpty=false:=ne_of_size h0
 have fb:∀ j,j < 256->putB g 0 s j=byteAt (padS s 64) j:=λ j hj=>by
  rw [byteAt_pad,putB,if_pos (by omega)];rfl
 have Fb:=Lib.hid fb
 have Fz:=Lib.hid (And.intro f0 (And.intro f4 f2))
 clear fb f0 f4 f2
 refine Tq.of λ W h B=>?_
 go_enter Tryz.func171,Tryz.ntmps171
 go_wp2_with fail
 (first | (with_reducible refine pl2 (.q [0,1,2,3,4,5,6] (.x [7] (.q [8,9] (.x [10] (.q [11] .d))))) ?_) | refine pl1 (.q [0,1,2,3,4,5,6] (.x [7] (.q [8,9] (.x [10] (.q [11] .d))))) ?_);simp only [Plan.run,pick,gZ,gS,gA,gN]
 (try go_frame)
 (repeat (first | ((with_reducible apply wpQuiet_build_ix);(·exact rfl);go_frame) | ((with_reducible apply wpQuiet_build_nd);(·exact rfl);(·exact rfl);go_frame) | ((with_reducible apply wpQuiet_nilput);(·exact rfl);go_frame) | ((with_reducible apply wpQuiet_load);(·exact rfl);(·rintro _ ⟨gq,rfl⟩;exact ii);go_frame) | go_big_quiet_step (exact qZ)));refine nZ ?_
 rintro w2 hw2
 have B2:=btCls hw2
 clear hw2
 go_wp2_with fail
 refine (Bt.call P).mono ?_
 rintro e w3 ⟨v,q,rfl,hR,B3⟩
 dsimp only at B3 ⊢
 rcases hR with ⟨e,he,rfl,rfl⟩ | ⟨p,rfl,⟨hp,hlv⟩,rfl⟩
 ·go_wp2_with fail
  dsimp only [Nx]
  (repeat go_big_quiet_step (exact qZ));refine nZ ?_
  refine btI ?_;intro w2 B2;go_wp2_with fail;dsimp only [Nx];(repeat go_big_quiet_step (exact qZ));refine nZ ?_;(first | (rintro w3 hw3;have B3:=btCls hw3;clear hw3) | rintro g3);go_wp2_with fail
  (refine bodyPost_ret (rc12 rfl _ _ _ _ rfl ii) rfl ?_)
  exact ⟨_,_,rfl,.inl ⟨e,he,rfl,rfl⟩,Bt.fin⟩
 ·have Hp:=Lib.hid hp
  have Hl:=Lib.hid hlv
  clear hp hlv
  go_wp2_with fail
  dsimp only [Nx]
  (repeat go_big_quiet_step (exact qZ));refine nZ ?_
  refine btI ?_;intro w2 B2;go_wp2_with fail;dsimp only [Nx];(repeat go_big_quiet_step (exact qZ));refine nZ ?_;(first | (rintro w3 hw3;have B3:=btCls hw3;clear hw3) | rintro g3);go_wp2_with fail
  (refine bodyPost_ret (rc12 rfl _ _ _ _ rfl ii) rfl ?_)
  exact ⟨_,_,rfl,.inr ⟨p,_,rfl,rfl,K.le_add _ _,Hp.out,.inr ⟨Hp.out,Hl.out,_,K.add_at _ _,Fz.out,Fb.out⟩⟩,Bt.fin⟩
theorem set_tq:∀ (n:Nat) (K:KS) (c:Nat) (p:Pt) (g:Nat->UInt8) (i:Nat) (s:ByteArray),Tr K n p g->n<=3->i < bl n->n+1<=c->s.size≠0->s.size<=256 ->
  Tq 171 #[stV st,.agg p.cs,.int .i64 (n:Nat),.int .i64 (i:Nat),.string s] (S K c) (RP S K (c - (n+1)) λ p' K'=>p'.isNone=false/\Tr K' n p' (putB g i s))
 | 0,K,c,p,g,i,s,_,_,hi,hc,h0,h2=>by
  obtain rfl:i=0:=by simp only [bl] at hi;omega
  exact set0_tq T K c p g s hc h0 h2
 | n+1,K,c,p,g,i,s,t,hn,hk,hc,h0,h2=>by
  have L:=links_tq T K c t (by omega)
  have BL:=below_fn ((n:Int)+1) n rfl (by omega)
  have hm:=tmod_bl i n
  have hbp:=bl_pos n
  have hbl:bl n<=16:=bl_le (show n<=2 by omega)
  have hib:i < 64:=Nat.lt_of_lt_of_le hk (bl_le (show n+1<=3 by omega))
  have hmod:i % bl n < bl n:=Nat.mod_lt _ hbp
  refine Tq.of λ W h B=>?_
  go_enter Tryz.func171,Tryz.ntmps171
  go_wp2_with ((with_reducible apply wpList_load);(·exact rfl);(·exact ii))
  refine (Bt.call L).mono ?_
  rintro e w1 ⟨v,q,rfl,⟨l,⟨rfl,rfl⟩,hf,_,hl⟩,B1⟩
  dsimp only at B1 ⊢
  have he1:(((n+1:Nat):Int))=(n:Int)+1:=by omega
  rcases four (show n < 3 by omega) hk with hj | hj | hj | hj
  ·have hd:=tdiv_bl hj
   have IH:=set_tq n K c (l 0) _ (i % bl n) s (hl 0 (by omega)) (by omega) hmod (by omega) h0 h2
   have Hj:=Lib.hid hj
   have Hl:=Lib.hid hl
   clear hj hl
   go_wp2_with (with_reducible refine Fn.go λ g=>?_)
   (first | (with_reducible refine pl2 (.q [1,2,3,4,5,6,7,8,9,10,11] (.f [0] (.x [12] (.q [13,14,16] (.f [15] (.x [17] (.q [18] .d))))))) ?_) | refine pl1 (.q [1,2,3,4,5,6,7,8,9,10,11] (.f [0] (.x [12] (.q [13,14,16] (.f [15] (.x [17] (.q [18] .d))))))) ?_);simp only [Plan.run,pick,gZ,gS,gA,gN]
   (try go_frame)
   (repeat (first | ((with_reducible apply wpQuiet_build_ix);(·exact rfl);go_frame) | ((with_reducible apply wpQuiet_build_nd);(·exact rfl);(·exact rfl);go_frame) | ((with_reducible apply wpQuiet_nilput);(·exact rfl);go_frame) | ((with_reducible apply wpQuiet_load);(·exact rfl);(·rintro _ ⟨gq,rfl⟩;exact ii);go_frame) | go_big_quiet_step (exact qZ)));refine nZ ?_
   (repeat (first | ((with_reducible apply wpQuiet_build_ix);(·exact rfl);go_frame) | ((with_reducible apply wpQuiet_build_nd);(·exact rfl);(·exact rfl);go_frame) | ((with_reducible apply wpQuiet_nilput);(·exact rfl);go_frame) | ((with_reducible apply wpQuiet_load);(·exact rfl);(·rintro _ ⟨gq,rfl⟩;exact ii);go_frame) | go_big_quiet_step (exact qZ)));refine nZ ?_
   rintro w2 hw2
   have B2:=btCls hw2
   clear hw2
   go_wp2_with fail
   refine (Bt.call IH).mono ?_
   rintro e w3 ⟨v,q,rfl,hR,B3⟩
   dsimp only at B3 ⊢
   rcases hR with ⟨e,he,rfl,rfl⟩ | ⟨p',K1,rfl,rfl,hK1,hp',tp⟩
   ·go_wp2_with fail
    dsimp only [Nx]
    (repeat go_big_quiet_step (exact qZ));refine nZ ?_
    (repeat go_big_quiet_step (exact qZ));refine nZ ?_
    refine btI ?_;intro w2 B2;go_wp2_with (first | ((with_reducible apply wpList_store);(·exact rfl);(·exact rfl);(·exact ii)) | (with_reducible apply wpList_build0));dsimp only [Nx];(repeat go_big_quiet_step (exact qZ));refine nZ ?_;(first | (rintro w3 hw3;have B3:=btCls hw3;clear hw3) | rintro g3);go_wp2_with (first | ((with_reducible apply wpList_store);(·exact rfl);(·exact rfl);(·exact ii)) | (with_reducible apply wpList_build0))
    (refine bodyPost_ret (rc12 rfl _ _ _ _ rfl ii) rfl ?_)
    exact ⟨_,_,rfl,.inl ⟨e,he,rfl,rfl⟩,(Bt.fin (p:=S K (c - (n+1)))).mono λ h q=>T.less _ _ _ (by omega) h q⟩
   ·haveI:Fit4 (upd l 0 p'):=T.fit4 (w:=w3) (K:=K1) (c:=c - (n+1)) hf tp hp'
    have P:=put_tq T K1 (c - (n+1)) (upd l 0 p') (n+1) hn (by omega) (ne_none4 (by omega) hp')
    rw [he1] at P
    have Tp:=Lib.hid tp
    have Hp:=Lib.hid hp'
    clear hp' tp
    go_wp2_with fail
    dsimp only [Nx]
    (repeat go_big_quiet_step (exact qZ));refine nZ ?_
    (repeat go_big_quiet_step (exact qZ));refine nZ ?_
    refine btI ?_;intro w2 B2;go_wp2_with (first | ((with_reducible apply wpList_load);(·exact rfl);(·exact ii)) | ((with_reducible apply wpList_store);(·exact rfl);(·exact rfl);(·exact ii)));dsimp only [Nx];(repeat go_big_quiet_step (exact qZ));refine nZ ?_;(first | (rintro w3 hw3;have B3:=btCls hw3;clear hw3) | rintro g3);go_wp2_with (first | ((with_reducible apply wpList_load);(·exact rfl);(·exact ii)) | ((with_reducible apply wpList_store);(·exact rfl);(·exact rfl);(·exact ii)))
    refine (Bt.call P).mono ?_
    rintro e w4 ⟨v,q,rfl,hR,B4⟩
    dsimp only at B4 ⊢
    rcases hR with ⟨e,he,rfl,rfl⟩ | ⟨p2,K2,rfl,rfl,hK2,hp2,hv2,hx2⟩
    ·go_wp2_with fail
     (refine bodyPost_ret (rc12 rfl _ _ _ _ rfl ii) rfl ?_)
     exact ⟨_,_,rfl,.inl ⟨e,he,rfl,rfl⟩,(Bt.fin (p:=S K1 (c - (n+1) - 1))).mono λ h q=>T.sub _ _ _ hK1 h (T.less _ _ _ (by omega) h q)⟩
    ·have Hx:=Lib.hid (And.intro hp2 (And.intro hv2 hx2))
     clear hp2 hv2 hx2
     go_wp2_with fail
     (refine bodyPost_ret (rc12 rfl _ _ _ _ rfl ii) rfl ?_)
     obtain ⟨hp2,hv2,hx2⟩:=Hx.out
     refine ⟨_,_,rfl,.inr ⟨p2,K2,rfl,rfl,hK1.trans hK2,hp2,?_⟩,(Bt.fin (p:=S K2 (c - (n+1) - 1))).mono λ h q=>T.less _ _ _ (by omega) h q⟩
     have hj:=Hj.out
     have tp:=Tp.out.mono hK2
     rw [<-hj] at tp hx2
     exact Tr.set (by omega) (λ k hk=>(Hl.out k hk).mono (hK1.trans hK2)) tp hp2 hv2 (by rw [hj];infer_instance) hx2
  ·have hd:=tdiv_bl hj
   have IH:=set_tq n K c (l 1) _ (i % bl n) s (hl 1 (by omega)) (by omega) hmod (by omega) h0 h2
   have Hj:=Lib.hid hj
   have Hl:=Lib.hid hl
   clear hj hl
   go_wp2_with (with_reducible refine Fn.go λ g=>?_)
   (first | (with_reducible refine pl2 (.q [1,2,3,4,5,6,7,8,9,10,11] (.f [0] (.x [12] (.q [13,14,16] (.f [15] (.x [17] (.q [18] .d))))))) ?_) | refine pl1 (.q [1,2,3,4,5,6,7,8,9,10,11] (.f [0] (.x [12] (.q [13,14,16] (.f [15] (.x [17] (.q [18] .d))))))) ?_);simp only [Plan.run,pick,gZ,gS,gA,gN]
   (try go_frame)
   (repeat (first | ((with_reducible apply wpQuiet_build_ix);(·exact rfl);go_frame) | ((with_reducible apply wpQuiet_build_nd);(·exact rfl);(·exact rfl);go_frame) | ((with_reducible apply wpQuiet_nilput);(·exact rfl);go_frame) | ((with_reducible apply wpQuiet_load);(·exact rfl);(·rintro _ ⟨gq,rfl⟩;exact ii);go_frame) | go_big_quiet_step (exact qZ)));refine nZ ?_
   (repeat (first | ((with_reducible apply wpQuiet_build_ix);(·exact rfl);go_frame) | ((with_reducible apply wpQuiet_build_nd);(·exact rfl);(·exact rfl);go_frame) | ((with_reducible apply wpQuiet_nilput);(·exact rfl);go_frame) | ((with_reducible apply wpQuiet_load);(·exact rfl);(·rintro _ ⟨gq,rfl⟩;exact ii);go_frame) | go_big_quiet_step (exact qZ)));refine nZ ?_
   rintro w2 hw2
   have B2:=btCls hw2
   clear hw2
   go_wp2_with fail
   refine (Bt.call IH).mono ?_
   rintro e w3 ⟨v,q,rfl,hR,B3⟩
   dsimp only at B3 ⊢
   rcases hR with ⟨e,he,rfl,rfl⟩ | ⟨p',K1,rfl,rfl,hK1,hp',tp⟩
   ·go_wp2_with fail
    dsimp only [Nx]
    (repeat go_big_quiet_step (exact qZ));refine nZ ?_
    (repeat go_big_quiet_step (exact qZ));refine nZ ?_
    refine btI ?_;intro w2 B2;go_wp2_with (first | ((with_reducible apply wpList_store);(·exact rfl);(·exact rfl);(·exact ii)) | (with_reducible apply wpList_build0));dsimp only [Nx];(repeat go_big_quiet_step (exact qZ));refine nZ ?_;(first | (rintro w3 hw3;have B3:=btCls hw3;clear hw3) | rintro g3);go_wp2_with (first | ((with_reducible apply wpList_store);(·exact rfl);(·exact rfl);(·exact ii)) | (with_reducible apply wpList_build0))
    (refine bodyPost_ret (rc12 rfl _ _ _ _ rfl ii) rfl ?_)
    exact ⟨_,_,rfl,.inl ⟨e,he,rfl,rfl⟩,(Bt.fin (p:=S K (c - (n+1)))).mono λ h q=>T.less _ _ _ (by omega) h q⟩
   ·haveI:Fit4 (upd l 1 p'):=T.fit4 (w:=w3) (K:=K1) (c:=c - (n+1)) hf tp hp'
    have P:=put_tq T K1 (c - (n+1)) (upd l 1 p') (n+1) hn (by omega) (ne_none4 (by omega) hp')
    rw [he1] at P
    have Tp:=Lib.hid tp
    have Hp:=Lib.hid hp'
    clear hp' tp
    go_wp2_with fail
    dsimp only [Nx]
    (repeat go_big_quiet_step (exact qZ));refine nZ ?_
    (repeat go_big_quiet_step (exact qZ));refine nZ ?_
    refine btI ?_;intro w2 B2;go_wp2_with (first | ((with_reducible apply wpList_load);(·exact rfl);(·exact ii)) | ((with_reducible apply wpList_store);(·exact rfl);(·exact rfl);(·exact ii)));dsimp only [Nx];(repeat go_big_quiet_step (exact qZ));refine nZ ?_;(first | (rintro w3 hw3;have B3:=btCls hw3;clear hw3) | rintro g3);go_wp2_with (first | ((with_reducible apply wpList_load);(·exact rfl);(·exact ii)) | ((with_reducible apply wpList_store);(·exact rfl);(·exact rfl);(·exact ii)))
    refine (Bt.call P).mono ?_
    rintro e w4 ⟨v,q,rfl,hR,B4⟩
    dsimp only at B4 ⊢
    rcases hR with ⟨e,he,rfl,rfl⟩ | ⟨p2,K2,rfl,rfl,hK2,hp2,hv2,hx2⟩
    ·go_wp2_with fail
     (refine bodyPost_ret (rc12 rfl _ _ _ _ rfl ii) rfl ?_)
     exact ⟨_,_,rfl,.inl ⟨e,he,rfl,rfl⟩,(Bt.fin (p:=S K1 (c - (n+1) - 1))).mono λ h q=>T.sub _ _ _ hK1 h (T.less _ _ _ (by omega) h q)⟩
    ·have Hx:=Lib.hid (And.intro hp2 (And.intro hv2 hx2))
     clear hp2 hv2 hx2
     go_wp2_with fail
     (refine bodyPost_ret (rc12 rfl _ _ _ _ rfl ii) rfl ?_)
     obtain ⟨hp2,hv2,hx2⟩:=Hx.out
     refine ⟨_,_,rfl,.inr ⟨p2,K2,rfl,rfl,hK1.trans hK2,hp2,?_⟩,(Bt.fin (p:=S K2 (c - (n+1) - 1))).mono λ h q=>T.less _ _ _ (by omega) h q⟩
     have hj:=Hj.out
     have tp:=Tp.out.mono hK2
     rw [<-hj] at tp hx2
     exact Tr.set (by omega) (λ k hk=>(Hl.out k hk).mono (hK1.trans hK2)) tp hp2 hv2 (by rw [hj];infer_instance) hx2
  ·have hd:=tdiv_bl hj
   have IH:=set_tq n K c (l 2) _ (i % bl n) s (hl 2 (by omega)) (by omega) hmod (by omega) h0 h2
   have Hj:=Lib.hid hj
   have Hl:=Lib.hid hl
   clear hj hl
   go_wp2_with (with_reducible refine Fn.go λ g=>?_)
   (first | (with_reducible refine pl2 (.q [1,2,3,4,5,6,7,8,9,10,11] (.f [0] (.x [12] (.q [13,14,16] (.f [15] (.x [17] (.q [18] .d))))))) ?_) | refine pl1 (.q [1,2,3,4,5,6,7,8,9,10,11] (.f [0] (.x [12] (.q [13,14,16] (.f [15] (.x [17] (.q [18] .d))))))) ?_);simp only [Plan.run,pick,gZ,gS,gA,gN]
   (try go_frame)
   (repeat (first | ((with_reducible apply wpQuiet_build_ix);(·exact rfl);go_frame) | ((with_reducible apply wpQuiet_build_nd);(·exact rfl);(·exact rfl);go_frame) | ((with_reducible apply wpQuiet_nilput);(·exact rfl);go_frame) | ((with_reducible apply wpQuiet_load);(·exact rfl);(·rintro _ ⟨gq,rfl⟩;exact ii);go_frame) | go_big_quiet_step (exact qZ)));refine nZ ?_
   (repeat (first | ((with_reducible apply wpQuiet_build_ix);(·exact rfl);go_frame) | ((with_reducible apply wpQuiet_build_nd);(·exact rfl);(·exact rfl);go_frame) | ((with_reducible apply wpQuiet_nilput);(·exact rfl);go_frame) | ((with_reducible apply wpQuiet_load);(·exact rfl);(·rintro _ ⟨gq,rfl⟩;exact ii);go_frame) | go_big_quiet_step (exact qZ)));refine nZ ?_
   rintro w2 hw2
   have B2:=btCls hw2
   clear hw2
   go_wp2_with fail
   refine (Bt.call IH).mono ?_
   rintro e w3 ⟨v,q,rfl,hR,B3⟩
   dsimp only at B3 ⊢
   rcases hR with ⟨e,he,rfl,rfl⟩ | ⟨p',K1,rfl,rfl,hK1,hp',tp⟩
   ·go_wp2_with fail
    dsimp only [Nx]
    (repeat go_big_quiet_step (exact qZ));refine nZ ?_
    (repeat go_big_quiet_step (exact qZ));refine nZ ?_
    refine btI ?_;intro w2 B2;go_wp2_with (first | ((with_reducible apply wpList_store);(·exact rfl);(·exact rfl);(·exact ii)) | (with_reducible apply wpList_build0));dsimp only [Nx];(repeat go_big_quiet_step (exact qZ));refine nZ ?_;(first | (rintro w3 hw3;have B3:=btCls hw3;clear hw3) | rintro g3);go_wp2_with (first | ((with_reducible apply wpList_store);(·exact rfl);(·exact rfl);(·exact ii)) | (with_reducible apply wpList_build0))
    (refine bodyPost_ret (rc12 rfl _ _ _ _ rfl ii) rfl ?_)
    exact ⟨_,_,rfl,.inl ⟨e,he,rfl,rfl⟩,(Bt.fin (p:=S K (c - (n+1)))).mono λ h q=>T.less _ _ _ (by omega) h q⟩
   ·haveI:Fit4 (upd l 2 p'):=T.fit4 (w:=w3) (K:=K1) (c:=c - (n+1)) hf tp hp'
    have P:=put_tq T K1 (c - (n+1)) (upd l 2 p') (n+1) hn (by omega) (ne_none4 (by omega) hp')
    rw [he1] at P
    have Tp:=Lib.hid tp
    have Hp:=Lib.hid hp'
    clear hp' tp
    go_wp2_with fail
    dsimp only [Nx]
    (repeat go_big_quiet_step (exact qZ));refine nZ ?_
    (repeat go_big_quiet_step (exact qZ));refine nZ ?_
    refine btI ?_;intro w2 B2;go_wp2_with (first | ((with_reducible apply wpList_load);(·exact rfl);(·exact ii)) | ((with_reducible apply wpList_store);(·exact rfl);(·exact rfl);(·exact ii)));dsimp only [Nx];(repeat go_big_quiet_step (exact qZ));refine nZ ?_;(first | (rintro w3 hw3;have B3:=btCls hw3;clear hw3) | rintro g3);go_wp2_with (first | ((with_reducible apply wpList_load);(·exact rfl);(·exact ii)) | ((with_reducible apply wpList_store);(·exact rfl);(·exact rfl);(·exact ii)))
    refine (Bt.call P).mono ?_
    rintro e w4 ⟨v,q,rfl,hR,B4⟩
    dsimp only at B4 ⊢
    rcases hR with ⟨e,he,rfl,rfl⟩ | ⟨p2,K2,rfl,rfl,hK2,hp2,hv2,hx2⟩
    ·go_wp2_with fail
     (refine bodyPost_ret (rc12 rfl _ _ _ _ rfl ii) rfl ?_)
     exact ⟨_,_,rfl,.inl ⟨e,he,rfl,rfl⟩,(Bt.fin (p:=S K1 (c - (n+1) - 1))).mono λ h q=>T.sub _ _ _ hK1 h (T.less _ _ _ (by omega) h q)⟩
    ·have Hx:=Lib.hid (And.intro hp2 (And.intro hv2 hx2))
     clear hp2 hv2 hx2
     go_wp2_with fail
     (refine bodyPost_ret (rc12 rfl _ _ _ _ rfl ii) rfl ?_)
     obtain ⟨hp2,hv2,hx2⟩:=Hx.out
     refine ⟨_,_,rfl,.inr ⟨p2,K2,rfl,rfl,hK1.trans hK2,hp2,?_⟩,(Bt.fin (p:=S K2 (c - (n+1) - 1))).mono λ h q=>T.less _ _ _ (by omega) h q⟩
     have hj:=Hj.out
     have tp:=Tp.out.mono hK2
     rw [<-hj] at tp hx2
     exact Tr.set (by omega) (λ k hk=>(Hl.out k hk).mono (hK1.trans hK2)) tp hp2 hv2 (by rw [hj];infer_instance) hx2
  ·have hd:=tdiv_bl hj
   have IH:=set_tq n K c (l 3) _ (i % bl n) s (hl 3 (by omega)) (by omega) hmod (by omega) h0 h2
   have Hj:=Lib.hid hj
   have Hl:=Lib.hid hl
   clear hj hl
   go_wp2_with (with_reducible refine Fn.go λ g=>?_)
   (first | (with_reducible refine pl2 (.q [1,2,3,4,5,6,7,8,9,10,11] (.f [0] (.x [12] (.q [13,14,16] (.f [15] (.x [17] (.q [18] .d))))))) ?_) | refine pl1 (.q [1,2,3,4,5,6,7,8,9,10,11] (.f [0] (.x [12] (.q [13,14,16] (.f [15] (.x [17] (.q [18] .d))))))) ?_);simp only [Plan.run,pick,gZ,gS,gA,gN]
   (try go_frame)
   (repeat (first | ((with_reducible apply wpQuiet_build_ix);(·exact rfl);go_frame) | ((with_reducible apply wpQuiet_build_nd);(·exact rfl);(·exact rfl);go_frame) | ((with_reducible apply wpQuiet_nilput);(·exact rfl);go_frame) | ((with_reducible apply wpQuiet_load);(·exact rfl);(·rintro _ ⟨gq,rfl⟩;exact ii);go_frame) | go_big_quiet_step (exact qZ)));refine nZ ?_
   (repeat (first | ((with_reducible apply wpQuiet_build_ix);(·exact rfl);go_frame) | ((with_reducible apply wpQuiet_build_nd);(·exact rfl);(·exact rfl);go_frame) | ((with_reducible apply wpQuiet_nilput);(·exact rfl);go_frame) | ((with_reducible apply wpQuiet_load);(·exact rfl);(·rintro _ ⟨gq,rfl⟩;exact ii);go_frame) | go_big_quiet_step (exact qZ)));refine nZ ?_
   rintro w2 hw2
   have B2:=btCls hw2
   clear hw2
   go_wp2_with fail
   refine (Bt.call IH).mono ?_
   rintro e w3 ⟨v,q,rfl,hR,B3⟩
   dsimp only at B3 ⊢
   rcases hR with ⟨e,he,rfl,rfl⟩ | ⟨p',K1,rfl,rfl,hK1,hp',tp⟩
   ·go_wp2_with fail
    dsimp only [Nx]
    (repeat go_big_quiet_step (exact qZ));refine nZ ?_
    (repeat go_big_quiet_step (exact qZ));refine nZ ?_
    refine btI ?_;intro w2 B2;go_wp2_with (first | ((with_reducible apply wpList_store);(·exact rfl);(·exact rfl);(·exact ii)) | (with_reducible apply wpList_build0));dsimp only [Nx];(repeat go_big_quiet_step (exact qZ));refine nZ ?_;(first | (rintro w3 hw3;have B3:=btCls hw3;clear hw3) | rintro g3);go_wp2_with (first | ((with_reducible apply wpList_store);(·exact rfl);(·exact rfl);(·exact ii)) | (with_reducible apply wpList_build0))
    (refine bodyPost_ret (rc12 rfl _ _ _ _ rfl ii) rfl ?_)
    exact ⟨_,_,rfl,.inl ⟨e,he,rfl,rfl⟩,(Bt.fin (p:=S K (c - (n+1)))).mono λ h q=>T.less _ _ _ (by omega) h q⟩
   ·haveI:Fit4 (upd l 3 p'):=T.fit4 (w:=w3) (K:=K1) (c:=c - (n+1)) hf tp hp'
    have P:=put_tq T K1 (c - (n+1)) (upd l 3 p') (n+1) hn (by omega) (ne_none4 (by omega) hp')
    rw [he1] at P
    have Tp:=Lib.hid tp
    have Hp:=Lib.hid hp'
    clear hp' tp
    go_wp2_with fail
    dsimp only [Nx]
    (repeat go_big_quiet_step (exact qZ));refine nZ ?_
    (repeat go_big_quiet_step (exact qZ));refine nZ ?_
    refine btI ?_;intro w2 B2;go_wp2_with (first | ((with_reducible apply wpList_load);(·exact rfl);(·exact ii)) | ((with_reducible apply wpList_store);(·exact rfl);(·exact rfl);(·exact ii)));dsimp only [Nx];(repeat go_big_quiet_step (exact qZ));refine nZ ?_;(first | (rintro w3 hw3;have B3:=btCls hw3;clear hw3) | rintro g3);go_wp2_with (first | ((with_reducible apply wpList_load);(·exact rfl);(·exact ii)) | ((with_reducible apply wpList_store);(·exact rfl);(·exact rfl);(·exact ii)))
    refine (Bt.call P).mono ?_
    rintro e w4 ⟨v,q,rfl,hR,B4⟩
    dsimp only at B4 ⊢
    rcases hR with ⟨e,he,rfl,rfl⟩ | ⟨p2,K2,rfl,rfl,hK2,hp2,hv2,hx2⟩
    ·go_wp2_with fail
     (refine bodyPost_ret (rc12 rfl _ _ _ _ rfl ii) rfl ?_)
     exact ⟨_,_,rfl,.inl ⟨e,he,rfl,rfl⟩,(Bt.fin (p:=S K1 (c - (n+1) - 1))).mono λ h q=>T.sub _ _ _ hK1 h (T.less _ _ _ (by omega) h q)⟩
    ·have Hx:=Lib.hid (And.intro hp2 (And.intro hv2 hx2))
     clear hp2 hv2 hx2
     go_wp2_with fail
     (refine bodyPost_ret (rc12 rfl _ _ _ _ rfl ii) rfl ?_)
     obtain ⟨hp2,hv2,hx2⟩:=Hx.out
     refine ⟨_,_,rfl,.inr ⟨p2,K2,rfl,rfl,hK1.trans hK2,hp2,?_⟩,(Bt.fin (p:=S K2 (c - (n+1) - 1))).mono λ h q=>T.less _ _ _ (by omega) h q⟩
     have hj:=Hj.out
     have tp:=Tp.out.mono hK2
     rw [<-hj] at tp hx2
     exact Tr.set (by omega) (λ k hk=>(Hl.out k hk).mono (hK1.trans hK2)) tp hp2 hv2 (by rw [hj];infer_instance) hx2
end
end Go.Proofs.YtlfjdjndhcmliaaGreatDoor
