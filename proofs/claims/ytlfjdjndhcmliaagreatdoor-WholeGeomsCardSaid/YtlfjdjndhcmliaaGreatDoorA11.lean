/- WholeGeoms, part 11. -/
import Derived.Test.YtlfjdjndhcmliaaGreatDoorA10
set_option maxRecDepth 100000
set_option maxHeartbeats 4000000
set_option linter.all false
namespace Go.Proofs.YtlfjdjndhcmliaaGreatDoor
open Go.RowKit Go.Sort
class ArrZ (cs:Array Value) (z:outParam Nat):Prop where
 h:cs.size=z
instance (p:Pt):ArrZ p.cs 12:=⟨rfl⟩
instance (n:Nd):ArrZ n.cs 13:=⟨rfl⟩
instance (l:Nat->Pt):ArrZ (cs4 l) 48:=⟨cs4_size l⟩
instance (a0 a1 a2 a3 a4 a5 a6 a7 a8 a9 a10 a11:Value):ArrZ #[a0,a1,a2,a3,a4,a5,a6,a7,a8,a9,a10,a11] 12:=⟨rfl⟩
instance (a0 a1 a2 a3 a4 a5 a6 a7 a8 a9 a10 a11 a12:Value):ArrZ #[a0,a1,a2,a3,a4,a5,a6,a7,a8,a9,a10,a11,a12] 13:=⟨rfl⟩
instance:ArrZ #[.int .i64 0,.int .i64 0,.int .i64 0,.int .i64 0,.bool false,.int .i64 0,.int .i64 0,.int .i64 0,.int .u64 0,.int .u64 0,.int .u64 0,.int .u64 0,.int .i64 0,.int .i64 0,.int .i64 0,.int .i64 0,.bool false,.int .i64 0,.int .i64 0,.int .i64 0,.int .u64 0,.int .u64 0,.int .u64 0,.int .u64 0,.int .i64 0,.int .i64 0,.int .i64 0,.int .i64 0,.bool false,.int .i64 0,.int .i64 0,.int .i64 0,.int .u64 0,.int .u64 0,.int .u64 0,.int .u64 0,.int .i64 0,.int .i64 0,.int .i64 0,.int .i64 0,.bool false,.int .i64 0,.int .i64 0,.int .i64 0,.int .u64 0,.int .u64 0,.int .u64 0,.int .u64 0] 48:=⟨rfl⟩
instance (priority:=low) subIn (W:World) (b z:Nat) (cs:Array Value) [k:CellsIn W b cs] [a:ArrZ cs z]:SubAt b 0 cs z W:=⟨a.h,k.old,λ j v e=>by
 rw [Nat.zero_add,cell_in,<- Array.getElem?_toList];exact e⟩
theorem subIn4 (W:World) (b:Nat) (l:Nat->Pt) (k:Nat) (hk:k < 4) [c:CellsIn W b (cs4 l)]:SubAt b (12*k) (l k).cs 12 W:=⟨rfl,c.old,λ j v e=>by
 rw [cell_in];exact cs4_at l k hk j v e⟩
instance (priority:=low) subIn40 (W:World) (b:Nat) (l:Nat->Pt) [c:CellsIn W b (cs4 l)]:SubAt b 0 (l 0).cs 12 W:=subIn4 W b l 0 (by omega)
instance (priority:=low) subIn41 (W:World) (b:Nat) (l:Nat->Pt) [c:CellsIn W b (cs4 l)]:SubAt b 12 (l 1).cs 12 W:=subIn4 W b l 1 (by omega)
instance (priority:=low) subIn42 (W:World) (b:Nat) (l:Nat->Pt) [c:CellsIn W b (cs4 l)]:SubAt b 24 (l 2).cs 12 W:=subIn4 W b l 2 (by omega)
instance (priority:=low) subIn43 (W:World) (b:Nat) (l:Nat->Pt) [c:CellsIn W b (cs4 l)]:SubAt b 36 (l 3).cs 12 W:=subIn4 W b l 3 (by omega)
instance (priority:=low) rowIn (W:World) (b z:Nat) (cs:Array Value) [k:CellsIn W b cs] [a:ArrZ cs z]:Row b z W:=by
 obtain ⟨t,e⟩:=k.get
 exact ⟨k.old,cs,t,a.h,e⟩
def isAg:TypeDesc->Bool
 | .struct _ | .array _ _=>true
 | _=>false
theorem results_ct {fn:Func} {p u:Tmp} {ty:TypeId} {z:Nat} (h:fn.results=#[.cell p ty,.tmp u]) (tmps:Array Value) (w:World) (b:Nat) (cs:Array Value) (hp:tmps.getD p undef=.pointer (some ⟨b,0,none⟩)) (hs:SubAt b 0 cs z w) {d:TypeDesc}
  (hu:Tryz.prog.underlying ty=some d) (hd:isAg d=true) (hi:(Tryz.prog.info? ty).map (·.size)=some z):(results fn tmps).run Tryz.prog w=.ok (.tuple #[.agg cs,tmps.getD u undef]) w:=by
 rw [results_cell_tmp h,hp]
 simp only [asAddr,Sem.run_pure,Result.andThen_ok]
 have hl:(loadVar ty ⟨b,0,none⟩).run Tryz.prog w=.ok (.agg cs) w:=by
  cases d <;> first | exact run_loadVarSub (P:=Tryz.prog) w b 0 z cs ty _ hu rfl hi | cases hd
 rw [hl]
 rfl
theorem wpList_loadg {ops:Array Oper} {rest:List Oper} {Q:Exit->Act->World->Prop} {a:Act} {w:World} {d:Option Tmp} {ty:TypeId} {pos:String} {aft:Array Edge} {gd:Nat × Bool} {t:TypeId} {x:Operand} {b o z:Nat} {cs:Array Value} [k:AggTy t z]
  (hw:Region.wanted { dst:=d,op:=.load t x,type:=ty,pos:=pos,after:=aft,guard:=some gd } (yielded ops a.tmps)=true) (hx:a.eval x=.pointer (some ⟨b,o,none⟩)) (hs:SubAt b o cs z w) (h:wpList Tryz.prog ops Q rest (a.put d (.agg cs)) w) :
  wpList Tryz.prog ops Q ({ dst:=d,op:=.load t x,type:=ty,pos:=pos,after:=aft,guard:=some gd }::rest) a w:=by
 unfold wpList
 rw [if_pos hw]
 left
 unfold Oper.wp
 have hr:(execOp a.eval { dst:=d,op:=.load t x,type:=ty,pos:=pos,after:=aft,guard:=some gd }).run Tryz.prog w=.ok (.value (.agg cs)) w:=by
  simp only [execOp,hx,Sem.run_bind,k.run w b o cs hs,Result.andThen_ok,Sem.run_pure]
 rw [hr]
 exact h
structure Sto (st:Nat) (S:KS->Nat->SP):Prop where
 get:∀ K c p t,K p t->Tq 319 #[.pointer (some ⟨st,0,none⟩),.agg p.cs] (S K c) λ v q=>v=.tuple #[.string t,.int .i64 0]/\q=S K c
 put:∀ K c t (lv:Nat),1<=c->lv<=3->t.size≠0->t.size % 64=0->t.size<=256->Tq 320 #[.pointer (some ⟨st,0,none⟩),.string t,.int .i64 lv] (S K c) λ v q =>
  (∃ e:Int,e≠0/\v=.tuple #[.agg Pt.none.cs,.int .i64 e]/\q=S K (c - 1))\/∃ p:Pt,v=.tuple #[.agg p.cs,.int .i64 0]/\(p.isNone=false/\p.level=lv)/\q=S (K.add p t) (c - 1)
 less:∀ K c c',c'<=c->∀ h,S K c h->S K c' h
 sub:∀ K K' c,K.le K'->∀ h,S K' c h->S K c h
 fit:∀ K c h p t,S K c h->K p t->PFit p
abbrev stV (st:Nat):Value:=.iface 110 (.pointer (some ⟨st,0,none⟩))
def itV (t:ByteArray):Value:=if t.size=0 then .iface 288 (.agg #[]) else .iface 316 (.agg #[.string t])
def ixV4 (l:Nat->Pt):Value:=.iface 291 (.agg (cs4 l))
@[go_sem ↓] theorem ta_ii (v:Value) (xT:TypeId) (w:World):(Instr.typeAssert (.iface 291 v) xT 291 true).run Tryz.prog w=.ok (.tuple #[v,.bool true]) w:=by kernel_rfl
@[go_sem ↓] theorem ta_hh (v:Value) (xT:TypeId) (w:World):(Instr.typeAssert (.iface 288 v) xT 288 true).run Tryz.prog w=.ok (.tuple #[v,.bool true]) w:=by kernel_rfl
@[go_sem ↓] theorem ta_hi (v:Value) (xT:TypeId) (w:World):(Instr.typeAssert (.iface 288 v) xT 291 true).run Tryz.prog w=.ok (.tuple #[.agg (cs4 none4),.bool false]) w:=by kernel_rfl
@[go_sem ↓] theorem ta_di (v:Value) (xT:TypeId) (w:World):(Instr.typeAssert (.iface 316 v) xT 291 true).run Tryz.prog w=.ok (.tuple #[.agg (cs4 none4),.bool false]) w:=by kernel_rfl
set_option maxRecDepth 512 in
theorem below_fn (x:Int) (n:Nat) (hx:x=(n:Int)+1) (hn:n<=3) (W:World):Fn 192 #[.int .i64 x] W (.int .i64 (bl n:Nat)):=by
 refine ⟨?_⟩
 subst hx
 have e:((n:Int)+1 - 1)=n:=by omega
 go_enter Tryz.func192,Tryz.ntmps192
 go_wp2_with fail
 go_loopw [3,6] (λ m i wr=>∃ k:Nat,k<=n/\i=.int .i64 k/\m=.int .i64 (bl k:Nat)/\wr=W)
  (λ _ i _=>n - (intOf i).toNat)
 case atStart=>exact ⟨0,Nat.zero_le _,rfl,rfl,rfl⟩
 case round =>
  obtain ⟨k,hk,rfl,rfl,rfl⟩:=hrel
  have hb:bl k<=64:=bl_le (show k<=3 by omega)
  by_cases hlt:k < n
  ·go_wp2_with fail
   exact ⟨⟨k+1,hlt,by go_num,by simp only [bl];go_num,by first | rfl | trivial⟩,by simp [intOf];omega⟩
  ·obtain rfl:n=k:=by omega
   go_wp2_with fail
   go_ret
   exact Ret.mk rfl grown
section
variable {st:Nat} {S:KS->Nat->SP} (T:Sto st S) (K:KS) (c:Nat)
include T
theorem item_none:Tq 194 #[stV st,.agg Pt.none.cs] (S K c) λ v q=>v=.tuple #[itV ⟨#[]⟩,.int .i64 0]/\q=S K c:=by
 refine Tq.of λ W h B=>?_
 go_enter Tryz.func194,Tryz.ntmps194
 go_wp2_with (first | (with_reducible refine Fn.go λ g=>?_) | ((with_reducible apply wpList_load);(·exact rfl);(·exact ii)))
 go_ret2
 exact ⟨_,_,rfl,⟨rfl,rfl⟩,Bt.fin⟩
theorem item_data (p:Pt) (t:ByteArray) (hp:p.isNone=false) (hl:p.level=0) (hK:K p t) (h0:t.size≠0) (h4:t.size % 64=0) (h2:t.size<=256):Tq 194 #[stV st,.agg p.cs] (S K c) λ v q=>v=.tuple #[itV t,.int .i64 0]/\q=S K c:=by
 refine Tq.of λ W h B=>?_
 have G:=T.get K c p t hK
 have R0:∀ W,Fn 233 #[.string t,.int .i64 p.level] W (.tuple #[.iface 316 (.agg #[.string t]),.int .i64 0]):=by rw [hl];exact read0 t h0 h4 h2
 have hv:itV t=.iface 316 (.agg #[.string t]):=if_neg h0
 rw [hv]
 clear hl hv
 go_enter Tryz.func194,Tryz.ntmps194
 go_wp2_with (first | (with_reducible refine Fn.go λ g=>?_) | ((with_reducible apply wpList_load);(·exact rfl);(·exact ii)))
 refine (Bt.call (G)).mono ?_;rintro e w1 ⟨v,q,rfl,⟨rfl,rfl⟩,B1⟩;dsimp only at B1 ⊢
 go_wp2_with (with_reducible refine Fn.go λ g=>?_)
 go_ret2
 exact ⟨_,_,rfl,⟨rfl,rfl⟩,Bt.fin⟩
theorem item_index (p:Pt) (l:Nat->Pt) [Fit4 l] (n:Nat) (hp:p.isNone=false) (hl:p.level=(n:Int)+1) (hn:n < 3) (hK:K p (idxS l)):Tq 194 #[stV st,.agg p.cs] (S K c) λ v q=>v=.tuple #[ixV4 l,.int .i64 0]/\q=S K c:=by
 refine Tq.of λ W h B=>?_
 have G:=T.get K c p _ hK
 have R0:∀ W,Fn 233 #[.string (idxS l),.int .i64 p.level] W (.tuple #[.iface 291 (.agg (cs4 l)),.int .i64 0]):=readx l p.level (by omega) (by omega)
 unfold ixV4
 clear hl
 go_enter Tryz.func194,Tryz.ntmps194
 go_wp2_with (first | (with_reducible refine Fn.go λ g=>?_) | ((with_reducible apply wpList_load);(·exact rfl);(·exact ii)))
 refine (Bt.call (G)).mono ?_;rintro e w1 ⟨v,q,rfl,⟨rfl,rfl⟩,B1⟩;dsimp only at B1 ⊢
 go_wp2_with (with_reducible refine Fn.go λ g=>?_)
 go_ret2
 exact ⟨_,_,rfl,⟨rfl,rfl⟩,Bt.fin⟩
theorem links_tq {n:Nat} {p:Pt} {g:Nat->UInt8} (t:Tr K (n+1) p g) (hn:n < 3):Tq 215 #[stV st,.agg p.cs] (S K c) λ v q=>∃ l:Nat->Pt,(v=.tuple #[.agg (cs4 l),.int .i64 0]/\q=S K c)/\Fit4 l/\((p.isNone=true->l=none4)/\(p.isNone=false->K p (idxS l)))/\∀ k,k < 4->Tr K n (l k) λ j=>g (span n*k+j):=by
 obtain ⟨l,hf,hl,ht⟩:=t.links
 have hv:=t.lv
 refine Tq.of λ W h B=>?_
 rcases hl with ⟨rfl,rfl⟩ | ⟨hp,hK⟩
 ·have G:=item_none T K c
  have hiv:itV ⟨#[]⟩=.iface 288 (.agg #[]):=rfl
  rw [hiv] at G
  go_enter Tryz.func215,Tryz.ntmps215
  go_wp2_with ((with_reducible apply wpList_load);(·exact rfl);(·exact ii))
  refine (Bt.call (G)).mono ?_;rintro e w1 ⟨v,q,rfl,⟨rfl,rfl⟩,B1⟩;dsimp only at B1 ⊢
  go_wp2_with (with_reducible apply wpList_build0)
  (refine bodyPost_ret (results_ct (z:=48) rfl _ _ _ _ rfl inferInstance Tryz.underlying265 rfl (by kernel_rfl)) rfl ?_)
  exact ⟨_,_,rfl,⟨none4,⟨rfl,rfl⟩,hf,⟨λ _=>rfl,λ h=>by rw [Pt.none_isNone] at h;cases h⟩,ht⟩,Bt.fin⟩
 ·have hl:p.level=(n:Int)+1:=by
   rcases hv with rfl | h
   ·rw [Pt.none_isNone] at hp;cases hp
   ·exact h.2.1
  have G:=item_index T K c p l n hp hl hn hK
  unfold ixV4 at G
  go_enter Tryz.func215,Tryz.ntmps215
  go_wp2_with ((with_reducible apply wpList_load);(·exact rfl);(·exact ii))
  refine (Bt.call (G)).mono ?_;rintro e w1 ⟨v,q,rfl,⟨rfl,rfl⟩,B1⟩;dsimp only at B1 ⊢
  go_wp2_with ((with_reducible apply wpList_load);(·exact rfl);(·exact ii))
  (refine bodyPost_ret (results_ct (z:=48) rfl _ _ _ _ rfl inferInstance Tryz.underlying265 rfl (by kernel_rfl)) rfl ?_)
  exact ⟨_,_,rfl,⟨l,⟨rfl,rfl⟩,hf,⟨(λ h=>by rw [hp] at h;cases h),λ _=>hK⟩,ht⟩,Bt.fin⟩
end
theorem rc12 {fn:Func} {p u:Tmp} (h:fn.results=#[.cell p 50,.tmp u]) (tmps:Array Value) (w:World) (b:Nat) (cs:Array Value) (hp:tmps.getD p undef=.pointer (some ⟨b,0,none⟩)) (hs:SubAt b 0 cs 12 w):(results fn tmps).run Tryz.prog w=.ok (.tuple #[.agg cs,tmps.getD u undef]) w:=results_ct h tmps w b cs hp hs Tryz.underlying50 rfl (by kernel_rfl)
theorem rc13 {fn:Func} {p u:Tmp} (h:fn.results=#[.cell p 52,.tmp u]) (tmps:Array Value) (w:World) (b:Nat) (cs:Array Value) (hp:tmps.getD p undef=.pointer (some ⟨b,0,none⟩)) (hs:SubAt b 0 cs 13 w):(results fn tmps).run Tryz.prog w=.ok (.tuple #[.agg cs,tmps.getD u undef]) w:=results_ct h tmps w b cs hp hs Tryz.underlying52 rfl (by kernel_rfl)
theorem tdiv_bl {k n j:Nat} (h:k / bl n=j):(k:Int).tdiv (bl n:Nat)=j:=by rw [<-h];exact (Int.natCast_ediv k (bl n)).symm ▸ Int.tdiv_eq_ediv_of_nonneg (by omega)
theorem tmod_bl (k n:Nat):(k:Int).tmod (bl n:Nat)=(k % bl n:Nat):=by rw [Int.natCast_emod];exact Int.tmod_eq_emod_of_nonneg (by omega)
theorem four {k n:Nat} (hn:n < 3) (hk:k < bl (n+1)):k / bl n=0\/k / bl n=1\/k / bl n=2\/k / bl n=3:=by
 match n,hn with
 | 0,_=>simp only [bl] at *;omega
 | 1,_=>simp only [bl] at *;omega
 | 2,_=>simp only [bl] at *;omega
theorem leaf_ix {n k j:Nat} (h:k / bl n=j) (i:Nat):span n*j+(256*(k % bl n)+i)=256*k+i:=by
 have:=Nat.div_add_mod k (bl n)
 rw [h] at this
 unfold span
 rw [Nat.mul_assoc]
 omega
structure ObW (K:KS) (n:Nd) (g:Nat->UInt8):Prop where
 sz:0<=n.size/\n.size<=16384
 tr:Tr K (lvl n.size).toNat n.root g
 z:∀ j:Nat,span (lvl n.size).toNat<=j->g j=0
section
variable {st:Nat} {S:KS->Nat->SP} (T:Sto st S) (K:KS) (c:Nat)
include T
theorem leaf_tq {n0:Nat} {p0:Pt} {g0:Nat->UInt8} {i0:Nat} (t0:Tr K n0 p0 g0) (hn0:n0<=3) (hi0:i0 < bl n0):Tq 193 #[stV st,.agg p0.cs,.int .i64 n0,.int .i64 i0] (S K c) λ v q=>∃ (p:Pt) (g:Nat->UInt8),(v=.tuple #[.agg p.cs,.int .i64 0]/\q=S K c)/\Tr K 0 p g/\∀ j,j < 256->g j=g0 (256*i0+j):=by
 refine Tq.of λ W h B=>?_
 go_enter Tryz.func193,Tryz.ntmps193
 go_wp2_with fail
 go_loopw [2,3] (λ lv i wr=>∃ (n k:Nat) (p:Pt) (g:Nat->UInt8),n<=3/\k < bl n/\lv=.int .i64 n/\i=.int .i64 k/\Tr K n p g/\(∀ j,j < 256->g (256*k+j)=g0 (256*i0+j))/\Bt W h [BlkP (W.heap.size+1) Pt.none.cs 50,BlkP W.heap.size p.cs 50,S K c] wr)
  (λ lv _ _=>(intOf lv).toNat)
 case atStart=>exact ⟨n0,i0,p0,g0,hn0,hi0,rfl,rfl,t0,λ _ _=>rfl,ii⟩
 case round =>
  clear B
  obtain ⟨n,k,p,gg,hn,hk,rfl,rfl,t,hg,B⟩:=hrel
  rcases n with _ | n
  ·obtain rfl:k=0:=by simp only [bl] at hk;omega
   have Hg:=Lib.hid hg
   clear hg
   go_wp2_with ((with_reducible apply wpList_load);(·exact rfl);(·exact ii))
   (refine bodyPost_ret (rc12 rfl _ _ _ _ rfl ii) rfl ?_)
   exact ⟨_,_,rfl,⟨p,gg,⟨rfl,rfl⟩,t,λ j hj=>by rw [<-Hg.out j hj,Nat.mul_zero,Nat.zero_add]⟩,Bt.fin⟩
  ·cases hp:p.isNone
   ·have L:=links_tq T K c t (by omega)
    have Hp:=Lib.hid hp
    have Hg:=Lib.hid hg
    have HN:∀ w,Fn 169 #[.agg p.cs] w (.bool false):=λ w=>by have e:=none_fn p w;rw [hp] at e;exact e
    have BL:=below_fn ((n:Int)+1) n rfl (by omega)
    clear hp hg
    go_wp2_with (first | (with_reducible refine Fn.go λ g=>?_) | ((with_reducible apply wpList_load);(·exact rfl);(·exact ii)) | ((with_reducible apply wpList_loadg);(·exact rfl);(·exact rfl);(·exact ii)))
    refine (Bt.call L).mono ?_
    rintro e w1 ⟨v,q,rfl,⟨l,⟨rfl,rfl⟩,hf,_,hl⟩,B1⟩
    dsimp only at B1 ⊢
    go_wp2_with fail
    have hm:=tmod_bl k n
    have hbp:=bl_pos n
    have hbl:bl n<=16:=bl_le (show n<=2 by omega)
    have hkb:k < 64:=Nat.lt_of_lt_of_le hk (bl_le (show n+1<=3 by omega))
    rcases four (show n < 3 by omega) hk with hj | hj | hj | hj
    ·have hd:=tdiv_bl hj
     have Hj:=Lib.hid hj
     clear hj
     (first | (with_reducible refine pl2 (.q [0,1,2,3,4,5,7,8] (.f [6,9] (.x [10] (.q [11] .d)))) ?_) | refine pl1 (.q [0,1,2,3,4,5,7,8] (.f [6,9] (.x [10] (.q [11] .d)))) ?_);simp only [Plan.run,pick,gZ,gS,gA,gN]
     (repeat (first | ((with_reducible apply wpQuiet_load);(·exact rfl);(·rintro _ ⟨gq,rfl⟩;exact ii);go_frame) | go_big_quiet_step (exact qZ)));refine nZ ?_
     (repeat (first | ((with_reducible apply wpQuiet_load);(·exact rfl);(·rintro _ ⟨gq,rfl⟩;exact ii);go_frame) | go_big_quiet_step (exact qZ)));refine nZ ?_
     refine btI ?_;intro w2 B2;go_wp2_with fail;dsimp only [Nx];(repeat go_big_quiet_step (exact qZ));refine nZ ?_;(first | (rintro w3 hw3;have B3:=btCls hw3;clear hw3) | rintro g3);go_wp2_with fail
     exact ⟨⟨n,k % bl n,l 0,_,by omega,Nat.mod_lt _ hbp,by go_num,rfl,hl 0 (by omega),λ i hi=>by rw [<-Hg.out i hi];exact congrArg gg (leaf_ix Hj.out i),B3.drop⟩,by simp [intOf]⟩
    ·have hd:=tdiv_bl hj
     have Hj:=Lib.hid hj
     clear hj
     (first | (with_reducible refine pl2 (.q [0,1,2,3,4,5,7,8] (.f [6,9] (.x [10] (.q [11] .d)))) ?_) | refine pl1 (.q [0,1,2,3,4,5,7,8] (.f [6,9] (.x [10] (.q [11] .d)))) ?_);simp only [Plan.run,pick,gZ,gS,gA,gN]
     (repeat (first | ((with_reducible apply wpQuiet_load);(·exact rfl);(·rintro _ ⟨gq,rfl⟩;exact ii);go_frame) | go_big_quiet_step (exact qZ)));refine nZ ?_
     (repeat (first | ((with_reducible apply wpQuiet_load);(·exact rfl);(·rintro _ ⟨gq,rfl⟩;exact ii);go_frame) | go_big_quiet_step (exact qZ)));refine nZ ?_
     refine btI ?_;intro w2 B2;go_wp2_with fail;dsimp only [Nx];(repeat go_big_quiet_step (exact qZ));refine nZ ?_;(first | (rintro w3 hw3;have B3:=btCls hw3;clear hw3) | rintro g3);go_wp2_with fail
     exact ⟨⟨n,k % bl n,l 1,_,by omega,Nat.mod_lt _ hbp,by go_num,rfl,hl 1 (by omega),λ i hi=>by rw [<-Hg.out i hi];exact congrArg gg (leaf_ix Hj.out i),B3.drop⟩,by simp [intOf]⟩
    ·have hd:=tdiv_bl hj
     have Hj:=Lib.hid hj
     clear hj
     (first | (with_reducible refine pl2 (.q [0,1,2,3,4,5,7,8] (.f [6,9] (.x [10] (.q [11] .d)))) ?_) | refine pl1 (.q [0,1,2,3,4,5,7,8] (.f [6,9] (.x [10] (.q [11] .d)))) ?_);simp only [Plan.run,pick,gZ,gS,gA,gN]
     (repeat (first | ((with_reducible apply wpQuiet_load);(·exact rfl);(·rintro _ ⟨gq,rfl⟩;exact ii);go_frame) | go_big_quiet_step (exact qZ)));refine nZ ?_
     (repeat (first | ((with_reducible apply wpQuiet_load);(·exact rfl);(·rintro _ ⟨gq,rfl⟩;exact ii);go_frame) | go_big_quiet_step (exact qZ)));refine nZ ?_
     refine btI ?_;intro w2 B2;go_wp2_with fail;dsimp only [Nx];(repeat go_big_quiet_step (exact qZ));refine nZ ?_;(first | (rintro w3 hw3;have B3:=btCls hw3;clear hw3) | rintro g3);go_wp2_with fail
     exact ⟨⟨n,k % bl n,l 2,_,by omega,Nat.mod_lt _ hbp,by go_num,rfl,hl 2 (by omega),λ i hi=>by rw [<-Hg.out i hi];exact congrArg gg (leaf_ix Hj.out i),B3.drop⟩,by simp [intOf]⟩
    ·have hd:=tdiv_bl hj
     have Hj:=Lib.hid hj
     clear hj
     (first | (with_reducible refine pl2 (.q [0,1,2,3,4,5,7,8] (.f [6,9] (.x [10] (.q [11] .d)))) ?_) | refine pl1 (.q [0,1,2,3,4,5,7,8] (.f [6,9] (.x [10] (.q [11] .d)))) ?_);simp only [Plan.run,pick,gZ,gS,gA,gN]
     (repeat (first | ((with_reducible apply wpQuiet_load);(·exact rfl);(·rintro _ ⟨gq,rfl⟩;exact ii);go_frame) | go_big_quiet_step (exact qZ)));refine nZ ?_
     (repeat (first | ((with_reducible apply wpQuiet_load);(·exact rfl);(·rintro _ ⟨gq,rfl⟩;exact ii);go_frame) | go_big_quiet_step (exact qZ)));refine nZ ?_
     refine btI ?_;intro w2 B2;go_wp2_with fail;dsimp only [Nx];(repeat go_big_quiet_step (exact qZ));refine nZ ?_;(first | (rintro w3 hw3;have B3:=btCls hw3;clear hw3) | rintro g3);go_wp2_with fail
     exact ⟨⟨n,k % bl n,l 3,_,by omega,Nat.mod_lt _ hbp,by go_num,rfl,hl 3 (by omega),λ i hi=>by rw [<-Hg.out i hi];exact congrArg gg (leaf_ix Hj.out i),B3.drop⟩,by simp [intOf]⟩
   ·obtain rfl:=(Pt.isNone_iff p).1 hp
    have Hg:=Lib.hid hg
    have hz:=t.zeros
    have Hz:=Lib.hid hz
    clear hg hp hz
    go_wp2_with (first | (with_reducible refine Fn.go λ g=>?_) | ((with_reducible apply wpList_load);(·exact rfl);(·exact ii)) | ((with_reducible apply wpList_loadg);(·exact rfl);(·exact rfl);(·exact ii)))
    (refine bodyPost_ret (rc12 rfl _ _ _ _ rfl ii) rfl ?_)
    exact ⟨_,_,rfl,⟨Pt.none,λ j=>gg (256*k+j),⟨rfl,rfl⟩,Tr.zero K λ j hj=>Hz.out _ (by have hj:j < 256:=hj;unfold span;omega),λ j hj=>Hg.out j hj⟩,Bt.fin⟩
theorem item0_tq {p:Pt} {g:Nat->UInt8} (t:Tr K 0 p g):Tq 194 #[stV st,.agg p.cs] (S K c) λ v q=>∃ s:ByteArray,(v=.tuple #[itV s,.int .i64 0]/\q=S K c)/\(s.size % 64=0/\s.size<=256)/\∀ j,j < 256->g j=byteAt s j:=by
 rcases t with ⟨rfl,hz⟩ | ⟨hp,hl,s,hK,⟨h0,h4,h2⟩,hg⟩
 ·exact (item_none T K c).mono λ v q h=>⟨q,⟨⟨#[]⟩,h,⟨rfl,by decide⟩,λ j hj=>by rw [hz j hj,byteAt_ge (Nat.zero_le _)]⟩,λ _ h=>h⟩
 ·exact (item_data T K c p s hp hl hK h0 h4 h2).mono λ v q h=>⟨q,⟨s,h,⟨h4,h2⟩,hg⟩,λ _ h=>h⟩
theorem block_tw {n:Nd} {gg:Nat->UInt8} {i:Nat} (o:ObW K n gg) (hi:i < 64):Tq 137 #[stV st,.agg n.cs,.int .i64 i] (S K c) λ v q=>∃ s:ByteArray,(v=.tuple #[itV s,.int .i64 0]/\q=S K c)/\(s.size % 64=0/\s.size<=256)/\∀ j,j < 256->gg (256*i+j)=byteAt s j:=by
 obtain ⟨⟨z0,z1⟩,t,hz⟩:=o
 obtain ⟨l0,l1⟩:=lvl_bd n.size
 have hsp:=lvl_span z1
 obtain ⟨m,hm⟩:=Int.eq_ofNat_of_zero_le l0
 rw [hm,Int.toNat_natCast] at t hsp hz
 have Hm:=Lib.hid hm
 have HV:∀ w,Fn 161 #[.int .i64 n.size] w (.int .i64 m):=λ w=>by have e:=level_fn n.size w;rw [hm] at e;exact e
 have BL:=below_fn ((m:Int)+1) m rfl (by omega)
 have e1:decide ((i:Int) < 0)=false:=decide_eq_false (by omega)
 have e2:decide ((64:Int)<=i)=false:=decide_eq_false (by omega)
 refine Tq.of λ W h B=>?_
 have hm3:m<=3:=by omega
 rcases Nat.lt_or_ge m 3 with h3 | h3
 ·have e3:(m:Int) < 3:=by omega
  rcases Nat.lt_or_ge i (bl m) with h5 | h5
  ·have L:=leaf_tq T K c t hm3 h5
   have h6:¬ bl m<=i:=by omega
   clear hm hz hsp l0 l1
   go_enter Tryz.func137,Tryz.ntmps137
   go_wp2_with (first | (with_reducible refine Fn.go λ g=>?_) | ((with_reducible apply wpList_load);(·exact rfl);(·exact ii)))
   refine (Bt.call L).mono ?_
   rintro e w1 ⟨v,q,rfl,⟨p,g',⟨rfl,rfl⟩,tp,hg⟩,B1⟩
   dsimp only at B1 ⊢
   go_wp2_with ((with_reducible apply wpList_load);(·exact rfl);(·exact ii))
   refine (Bt.call (item0_tq T K c tp)).mono ?_
   rintro e w2 ⟨v,q,rfl,⟨s,⟨rfl,rfl⟩,h4,hs⟩,B2⟩
   dsimp only at B2 ⊢
   have fs:∀ j,j < 256->gg (256*i+j)=byteAt s j:=λ j hj=>by rw [<-hg j hj,hs j hj]
   have Fs:=Lib.hid fs
   have H4:=Lib.hid h4
   clear hg hs fs h4
   by_cases h0:s.size=0
   ·have e0:itV s=.iface 288 (.agg #[]):=if_pos h0
    rw [e0]
    have E0:=Lib.hid e0
    clear e0 h0
    go_wp2_with fail
    go_ret2
    exact ⟨_,_,rfl,⟨s,⟨by rw [E0.out];rfl,rfl⟩,H4.out,Fs.out⟩,Bt.fin⟩
   ·have e0:itV s=.iface 316 (.agg #[.string s]):=if_neg h0
    rw [e0]
    have E0:=Lib.hid e0
    clear e0 h0
    go_wp2_with fail
    go_ret2
    exact ⟨_,_,rfl,⟨s,⟨by rw [E0.out];rfl,rfl⟩,H4.out,Fs.out⟩,Bt.fin⟩
  ·have Hz:=Lib.hid hz
   have Hs:=Lib.hid hsp
   have H5:=Lib.hid h5
   clear hm hz hsp l0 l1
   go_enter Tryz.func137,Tryz.ntmps137
   go_wp2_with (with_reducible refine Fn.go λ g=>?_)
   go_ret2
   exact ⟨_,_,rfl,⟨⟨#[]⟩,⟨rfl,rfl⟩,⟨rfl,by decide⟩,λ j hj=>by rw [Hz.out _ (by have:=H5.out;unfold span at *;omega),byteAt_ge (Nat.zero_le _)]⟩,Bt.fin⟩
 ·obtain rfl:m=3:=by omega
  have L:=leaf_tq T K c t hm3 hi
  clear hm hz hsp l0 l1
  go_enter Tryz.func137,Tryz.ntmps137
  go_wp2_with (first | (with_reducible refine Fn.go λ g=>?_) | ((with_reducible apply wpList_load);(·exact rfl);(·exact ii)))
  refine (Bt.call L).mono ?_
  rintro e w1 ⟨v,q,rfl,⟨p,g',⟨rfl,rfl⟩,tp,hg⟩,B1⟩
  dsimp only at B1 ⊢
  go_wp2_with ((with_reducible apply wpList_load);(·exact rfl);(·exact ii))
  refine (Bt.call (item0_tq T K c tp)).mono ?_
  rintro e w2 ⟨v,q,rfl,⟨s,⟨rfl,rfl⟩,h4,hs⟩,B2⟩
  dsimp only at B2 ⊢
  have fs:∀ j,j < 256->gg (256*i+j)=byteAt s j:=λ j hj=>by rw [<-hg j hj,hs j hj]
  have Fs:=Lib.hid fs
  have H4:=Lib.hid h4
  clear hg hs fs h4
  by_cases h0:s.size=0
  ·have e0:itV s=.iface 288 (.agg #[]):=if_pos h0
   rw [e0]
   have E0:=Lib.hid e0
   clear e0 h0
   go_wp2_with fail
   go_ret2
   exact ⟨_,_,rfl,⟨s,⟨by rw [E0.out];rfl,rfl⟩,H4.out,Fs.out⟩,Bt.fin⟩
  ·have e0:itV s=.iface 316 (.agg #[.string s]):=if_neg h0
   rw [e0]
   have E0:=Lib.hid e0
   clear e0 h0
   go_wp2_with fail
   go_ret2
   exact ⟨_,_,rfl,⟨s,⟨by rw [E0.out];rfl,rfl⟩,H4.out,Fs.out⟩,Bt.fin⟩
theorem block_tq {n:Nd} {gg:Nat->UInt8} {i:Nat} (o:Ob K n gg) (hi:i < 64):Tq 137 #[stV st,.agg n.cs,.int .i64 i] (S K c) λ v q=>∃ s:ByteArray,(v=.tuple #[itV s,.int .i64 0]/\q=S K c)/\(s.size % 64=0/\s.size<=256)/\∀ j,j < 256->gg (256*i+j)=byteAt s j :=
 block_tw T K c ⟨o.sz,o.tr,λ j hj=>o.z j (by have:=lvl_span o.sz.2;omega)⟩ hi
end
set_option maxRecDepth 512 in
instance hole_fn (W:World):Fn 382 #[.agg #[]] W (.string ⟨#[]⟩):=by
 refine ⟨?_⟩
 go_enter Tryz.func382,Tryz.ntmps382
 go_wp2_with fail
 go_ret
 exact Ret.mk rfl grown
theorem zerosB_at (n j:Nat):byteAt (zerosB n) j=0:=by
 unfold byteAt
 rw [zerosB_list,List.getD_eq_getElem?_getD,List.getElem?_replicate]
 split <;> rfl
theorem byteAt_cat (s t:ByteArray) (j:Nat):byteAt (s++t) j=if j < s.size then byteAt s j else byteAt t (j - s.size):=by
 unfold byteAt
 rw [cat_list,List.getD_eq_getElem?_getD,List.getD_eq_getElem?_getD,List.getD_eq_getElem?_getD,List.getElem?_append,size_list]
 split <;> rfl
theorem padS_id {s:ByteArray} (h:s.size % 64=0):padS s 64=s:=by
 unfold padS
 rw [h]
 refine ba_ext ?_
 rw [cat_list,zerosB_list]
 simp
theorem data_id {s:ByteArray} (h:s.size % 64=0) (h2:s.size<=256) (W:World):Fn 217 #[.agg #[.string s]] W (.string s):=by
 haveI:Sz4 s:=⟨by omega⟩
 have e:=data_fn s W
 unfold dataS at e
 rw [if_pos h2,padS_id h] at e
 exact e
theorem bl_of_blk {b:Nat} {h:Hl} (p:BlkP b #[.pointer none,.slice none 0 0] 160 h):Bl b [] (one b (.cells #[.pointer none,.slice none 0 0] 160)) :=
 ⟨_,_,.inl rfl,one_same ..,λ k hk=>by
  unfold one at hk
  split at hk
  ·left;assumption
  ·exact absurd rfl hk,.inl ⟨rfl,rfl⟩⟩
theorem Bt.bld {W w:World} {h:Hl} {b:Nat} {l:List SP} (B:Bt W h (BlkP b #[.pointer none,.slice none 0 0] 160::l) w):Bt W h (Bl b []::l) w:=⟨B.t.mono λ _ ⟨h1,h2,a,b',c,d,e⟩=>by
 have s:Sub (one b (.cells #[.pointer none,.slice none 0 0] 160)) h1:=λ n o q=>by
  unfold one at q
  split at q
  ·rename_i h1;subst h1;cases q;exact a
  ·cases q
 exact ⟨_,h2,bl_of_blk a,b',s.trans c,d,(e.symm.sub s).symm⟩⟩
theorem write_tq (b:Nat) (l:List UInt8) (s:ByteArray) (hlen:l.length+s.size<=1000000):Tq 78 #[.pointer (some ⟨b,0,none⟩),.string s] (Bl b l) λ v q=>v=.tuple #[.int .i64 s.size,.nilIface]/\q=Bl b (l++s.data.toList) :=
 λ W h i p=>(write_h h b l s p W hlen).mono λ _ _ ⟨e,t⟩=>⟨_,_,e,⟨rfl,rfl⟩,t⟩
theorem str_tq (b:Nat) (l:List UInt8):Tq 79 #[.pointer (some ⟨b,0,none⟩)] (Bl b l) λ v q=>v=.string ⟨l.toArray⟩/\q=Emp :=
 λ W h i p=>(str_h h b l p W).mono λ _ _ ⟨e,m⟩=>⟨_,_,e,⟨rfl,rfl⟩,m,λ _=>none,⟨λ _ _ e=>by cases e⟩,λ _ _ _=>rfl,trivial⟩
def wl (g:Nat->UInt8) (off n:Nat):List UInt8:=(List.range n).map λ j=>g (off+j)
theorem wl_snoc {s:ByteArray} {g:Nat->UInt8} {off m i a b:Nat} (hs:s.size=256) (hg:∀ j,j < 256->byteAt s j=g (256*i+j)) (ha:256*i+a=off+m) (hb:a<=b) (hb2:b<=256):wl g off m++(s.extract a b).data.toList=wl g off (m+(b - a)):=by
 have e:s=txt g (256*i) 256:=txt_of hs hg
 subst e
 refine List.ext_getElem ?_ λ j h1 h2=>?_
 ·simp [wl,txt,ByteArray.data_extract,Array.toList_extract,List.extract_eq_take_drop];omega
 ·simp only [wl,List.length_map,List.length_range] at h2
  rw [List.getElem_append]
  split
  ·simp [wl]
  ·rename_i h3
   simp only [wl,List.length_map,List.length_range] at h3
   simp [wl,txt,ByteArray.data_extract,Array.toList_extract,List.extract_eq_take_drop]
   congr 1;omega
section
variable {st:Nat} {S:KS->Nat->SP} (T:Sto st S) (K:KS) (c:Nat)
include T
theorem bytes_tq {n:Nd} {g:Nat->UInt8} {i:Nat} (o:Ob K n g) (hi:i < 64):Tq 77 #[stV st,.agg n.cs,.int .i64 i] (S K c) λ v q=>∃ s:ByteArray,(v=.tuple #[.string s,.int .i64 0]/\q=S K c)/\s.size=256/\∀ j,j < 256->byteAt s j=g (256*i+j):=by
 have L:=block_tq T K c o hi
 clear o
 refine Tq.of λ W h B=>?_
 go_enter Tryz.func77,Tryz.ntmps77
 go_wp2_with ((with_reducible apply wpList_load);(·exact rfl);(·exact ii))
 refine (Bt.call L).mono ?_
 rintro e w1 ⟨v,q,rfl,⟨s,⟨rfl,rfl⟩,⟨h4,h2⟩,hs⟩,B1⟩
 dsimp only at B1 ⊢
 have HR:=λ z hz W=>rep_any (256 - s.size) (by omega) z hz W
 have HD:=data_id h4 h2
 have Hs:=Lib.hid hs
 clear hs h4
 by_cases h0:s.size=0
 ·have e0:itV s=.iface 288 (.agg #[]):=if_pos h0
  obtain rfl:s=⟨#[]⟩:=ba_ext (List.eq_nil_of_length_eq_zero (by rw [size_list];exact h0))
  rw [e0]
  clear e0 h0
  go_wp2_with (with_reducible refine Fn.go λ g=>?_)
  refine @Fn.go _ _ _ _ _ (HR _ (by rfl) _) λ g1=>?_
  dsimp only
  go_wp2_with fail
  go_ret2
  exact ⟨_,_,rfl,⟨⟨#[]⟩++zerosB 256,⟨rfl,rfl⟩,by rw [cat_size,zerosB_size];rfl,λ j hj=>by
   rw [byteAt_cat,if_neg (by show ¬ j < 0;omega),zerosB_at,Hs.out j hj,byteAt_ge (Nat.zero_le _)]⟩,Bt.fin⟩
 ·have e0:itV s=.iface 316 (.agg #[.string s]):=if_neg h0
  rw [e0]
  clear e0 h0
  go_wp2_with (with_reducible refine Fn.go λ g=>?_)
  refine @Fn.go _ _ _ _ _ (HR _ (by omega) _) λ g1=>?_
  dsimp only
  go_wp2_with fail
  go_ret2
  exact ⟨_,_,rfl,⟨s++zerosB (256 - s.size),⟨rfl,rfl⟩,by rw [cat_size,zerosB_size];omega,λ j hj=>by
   rw [byteAt_cat,zerosB_at,Hs.out j hj]
   split
   ·rfl
   ·rw [byteAt_ge (by omega)]⟩,Bt.fin⟩
theorem read_tq {n:Nd} {g:Nat->UInt8} (o:Ob K n g) (off size:Nat) (hoff:off<=100000) (hsize:size<=100000):Tq 35 #[stV st,.agg n.cs,.int .i64 off,.int .i64 size] (S K c) λ v q=>v=.tuple #[.string (txt g off (min size (n.size.toNat - off))),.int .i64 0]/\q=S K c:=by
 obtain ⟨⟨z0,z1⟩,_,_⟩:=id o
 obtain ⟨z,hz⟩:=Int.eq_ofNat_of_zero_le z0
 have L:=λ i hi=>bytes_tq T K c (i:=i) o hi
 have hn:n=⟨z,n.root⟩:=by cases n;cases hz;rfl
 have e3:n.size.toNat=z:=by omega
 rw [e3]
 obtain ⟨r,hr⟩:∃ r,n.root=r:=⟨_,rfl⟩
 rw [hr] at hn
 subst hn
 clear hr e3 o hz z0
 have z1:z<=16384:=by have:((z:Int))<=16384:=z1;omega
 refine Tq.of λ W h B=>?_
 rcases Nat.lt_or_ge off z with hlt | hge
 ·obtain ⟨e,he⟩:∃ e,e=off+min size (z - off):=⟨_,rfl⟩
  have hez:e<=z:=by omega
  have hmin:min size (z - off)=e - off:=by omega
  have hoe:off<=e:=by omega
  have he2:wrap64 ((off:Int)+imin (size:Int) ((z:Int) - off))=e:=by unfold imin wrap64;split <;> omega
  rw [hmin]
  clear hmin he
  go_enter Tryz.func35,Tryz.ntmps35
  go_wp2_with fail
  go_loopw [12] (λ iv wr=>∃ i m:Nat,iv=.int .i64 i/\i<=64/\(m=0/\i=off / 256\/off / 256 < i/\off+m=min (256*i) e)/\Bt W h [Bl (W.heap.size+1) (wl g off m),BlkP W.heap.size (Nd.mk z r).cs 52,S K c] wr)
   (λ iv _=>65 - (intOf iv).toNat)
  case atStart=>exact ⟨off / 256,0,by go_num,by omega,.inl ⟨rfl,rfl⟩,Bt.bld ii⟩
  case round =>
   clear B
   obtain ⟨i,m,rfl,hi,hm,B⟩:=hrel
   by_cases hlt2:(i:Int)*256 < e
   ·have L1:=L i (by omega)
    obtain ⟨a,ha⟩:∃ a,a=off - 256*i:=⟨_,rfl⟩
    obtain ⟨b,hb⟩:∃ b,b=min (e - 256*i) 256:=⟨_,rfl⟩
    have h1:imax ((off:Int) - (i:Int)*256) 0=a:=by unfold imax;split <;> omega
    have h2:imin ((e:Int) - (i:Int)*256) 256=b:=by unfold imin;split <;> omega
    have hab:a<=b:=by omega
    have hb6:b<=256:=by omega
    have hma:256*i+a=off+m:=by omega
    have hm2:off+(m+(b - a))=min (256*(i+1)) e:=by omega
    have hi2:off / 256 < i+1:=by omega
    have hm16:m<=20000:=by omega
    have Hm2:=Lib.hid hm2
    have Hma:=Lib.hid hma
    clear L ha hb hm hm2 hma
    go_wp2_with ((with_reducible apply wpList_load);(·exact rfl);(·exact ii))
    refine (Bt.call L1).mono ?_
    rintro e w1 ⟨v,q,rfl,⟨s,⟨rfl,rfl⟩,hs,hg⟩,B1⟩
    dsimp only at B1 ⊢
    have HW:=write_tq (W.heap.size+1) (wl g off m) (s.extract a b) (by simp [wl,ByteArray.size_extract,hs];omega)
    rw [wl_snoc hs hg Hma.out hab hb6] at HW
    clear hg
    go_wp2_with fail
    refine (Bt.call HW).mono ?_
    rintro e w2 ⟨v,q,rfl,⟨rfl,rfl⟩,B2⟩
    dsimp only at B2 ⊢
    go_wp2_with fail
    exact ⟨⟨i+1,m+(b - a),by go_num,by omega,.inr ⟨hi2,Hm2.out⟩,B2⟩,by simp [intOf];omega⟩
   ·have he:m=e - off:=by omega
    have hs:(⟨(wl g off m).toArray⟩:ByteArray)=txt g off (e - off):=by rw [he];rfl
    have Hs:=Lib.hid hs
    have HW:=str_tq (W.heap.size+1) (wl g off m)
    rw [hs] at HW
    clear he hs L
    go_wp2_with fail
    refine (Bt.call HW).mono ?_
    rintro e w1 ⟨v,q,rfl,⟨rfl,rfl⟩,B1⟩
    dsimp only at B1 ⊢
    go_wp2_with fail
    go_ret2
    first | exact ⟨_,_,rfl,⟨rfl,rfl⟩,Bt.fin⟩ | exact ⟨_,rfl,_,⟨rfl,rfl⟩,Bt.fin⟩
 ·have hge2:¬ (off:Int) < z:=by omega
  have e4:min size (z - off)=0:=by omega
  rw [e4]
  clear e4
  go_enter Tryz.func35,Tryz.ntmps35
  go_wp2_with fail
  go_ret2
  first | exact ⟨_,_,rfl,⟨rfl,rfl⟩,Bt.fin⟩ | exact ⟨_,rfl,_,⟨rfl,rfl⟩,Bt.fin⟩
end
end Go.Proofs.YtlfjdjndhcmliaaGreatDoor
