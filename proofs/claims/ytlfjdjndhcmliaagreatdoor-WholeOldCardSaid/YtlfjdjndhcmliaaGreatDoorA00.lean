/- WholeOld, part 0. -/
import Derived.WalkKit
import Derived.WalkSpells
import Derived.Lib.Hide
import Derived.Lib.QuietBelow
import Derived.BigQuiet
import Derived.Laws.RangeString
import Derived.StillTail
import Derived.ProofKit
import Derived.OpenShut
import Derived.Lib.SmallJoins
import Derived.Deep.Slices
import Derived.Test.YtlfjdjndhcmliaaGreatDoorChecked
import Derived.Laws.BytesArg
import Derived.Handy
set_option maxRecDepth 100000
set_option maxHeartbeats 4000000
set_option linter.all false
namespace Go.Proofs.YtlfjdjndhcmliaaGreatDoor
open Go.RowKit Go.Sort
structure Gr where
 d:Nat
 os:Array Obj
instance:Inhabited Gr:=⟨⟨0,#[]⟩⟩
def gr(W:World)(g:Gr):World:=grow (redrawn W g.d) g.os
theorem Yl(W:World)(g:Gr):(gr W g).heap.size=W.heap.size+g.os.size:=by simp [gr,grow,redrawn]
theorem XQ(W:World)(g:Gr){n:Nat}(h:n<W.heap.size):(gr W g).heap[n]?=W.heap[n]?:=heap_grow_old (redrawn W g.d) g.os h
class ZX(w:World)(n:Nat):Prop where
 h:w.heap.size=n
class Yc(n:Nat)(w:World):Prop where
 h:n<w.heap.size
instance(priority:=low) Zma(w:World):ZX w w.heap.size:=⟨rfl⟩
instance ZlF(w:World)(o:Obj)(n:Nat)[k:ZX w n]:ZX (w.alloc o) (n+1):=⟨by rw [World.size_alloc,k.h]⟩
instance ZnC(w:World)(a:Addr)(v:Value)(n:Nat)[k:ZX w n]:ZX (w.setCell a v) n:=⟨by rw [World.size_setCell,k.h]⟩
instance Zn5(w:World)(o:Obj)(n:Nat)[k:ZX w n]:Yc n (w.alloc o):=⟨by rw [World.size_alloc,k.h];omega⟩
instance ZmC(w:World)(o:Obj)(n:Nat)[k:Yc n w]:Yc n (w.alloc o):=⟨by have:=k.h;rw [World.size_alloc];omega⟩
instance ZoC(w:World)(a:Addr)(v:Value)(n:Nat)[k:Yc n w]:Yc n (w.setCell a v):=⟨by rw [World.size_setCell];exact k.h⟩
instance ZnQ(w:World)(n:Nat)[k:Yc n w]:Yc n w.drew:=⟨k.h⟩
instance ZqC(w:World)(g:Gr)(n:Nat)[k:Yc n w]:Yc n (gr w g):=⟨by have:=k.h;rw [Yl];omega⟩
class JL(n:Nat)(w:World):Prop where
 h:n<=w.heap.size
instance ZmZ(w:World):JL w.heap.size w:=⟨Nat.le_refl _⟩
instance ZlJ(w:World)(o:Obj)(n:Nat)[k:JL n w]:JL n (w.alloc o):=⟨by have:=k.h;rw [World.size_alloc];omega⟩
instance Znu(w:World)(a:Addr)(v:Value)(n:Nat)[k:JL n w]:JL n (w.setCell a v):=⟨by rw [World.size_setCell];exact k.h⟩
instance Zl7(w:World)(n:Nat)[k:JL n w]:JL n w.drew:=⟨k.h⟩
instance Zo1(w:World)(g:Gr)(n:Nat)[k:JL n w]:JL n (gr w g):=⟨by have:=k.h;rw [Yl];omega⟩
section
variable(W:World)(g:Gr)(n i:Nat)
@[go_sem] theorem ZoD [k:Yc n W]:(n<W.heap.size)=True:=by simp [k.h]
@[go_sem] theorem Zol [k:JL n W]:(n<=W.heap.size)=True:=by simp [k.h]
@[go_sem] theorem Zla (m:Nat) [k:Yc n W]:(n<W.heap.size+m)=True:=by have:=k.h;simp;omega
@[go_sem] theorem ZkB (m:Nat) [k:JL n W]:(n<=W.heap.size+m)=True:=by have:=k.h;simp;omega
@[go_sem] theorem Zn6 [k:Yc n W]:(W.heap.size=n)=False:=by have:=k.h;simp;omega
@[go_sem] theorem Znz [k:Yc n W]:(n=W.heap.size)=False:=by have:=k.h;simp;omega
theorem kW:W.heap.size<=(gr W g).heap.size:=by rw [Yl];omega
@[go_sem] theorem Z7 [k:Yc n W]:(gr W g).cell? ⟨n,i,none⟩=W.cell? ⟨n,i,none⟩:=cell?_grow (redrawn W g.d) g.os ⟨n,i,none⟩ k.h
@[go_sem] theorem UN [k:Yc n W]:(gr W g).frozen? ⟨n,i,none⟩=W.frozen? ⟨n,i,none⟩:=frozen?_grow (redrawn W g.d) g.os ⟨n,i,none⟩ k.h
@[go_sem] theorem Zca (v:Value) [k:Yc n W]:(gr W g).setCell ⟨n,i,none⟩ v=gr (W.setCell ⟨n,i,none⟩ v) g:=by
 simp only [gr,World.setCell,grow,redrawn];rw [modify_append_left _ _ _ _ k.h]
@[go_sem] theorem QW (o:Obj) [k:Yc n W]:(W.alloc o).cell? ⟨n,i,none⟩=W.cell? ⟨n,i,none⟩:=World.cell?_alloc_lt _ _ _ k.h
@[go_sem] theorem Zaw (o:Obj) [k:Yc n W]:(W.alloc o).frozen? ⟨n,i,none⟩=W.frozen? ⟨n,i,none⟩:=World.frozen?_alloc_old _ _ _ (by have:=k.h;show n≠_;omega)
@[go_sem] theorem Zid (o:Obj) (v:Value) [k:Yc n W]:(W.alloc o).setCell ⟨n,i,none⟩ v=(W.setCell ⟨n,i,none⟩ v).alloc o:=World.setCell_alloc_past (hn:=k.h) ..
@[go_sem] theorem Qc (c:Array Value) (t:TypeId) [k:ZX W n]:(W.alloc (.cells c t)).cell? ⟨n,i,none⟩=c[i]?:=World.cell?_alloc_at (hn:=k.h.symm) ..
@[go_sem] theorem Zey (c:Array Value) (t:TypeId) [k:ZX W n]:(W.alloc (.cells c t)).frozen? ⟨n,i,none⟩=false:=World.frozen?_alloc_at (hn:=k.h.symm) ..
@[go_sem] theorem ZkJ (c:Array Value) (t:TypeId) (v:Value) [k:ZX W n]:(W.alloc (.cells c t)).setCell ⟨n,i,none⟩ v=W.alloc (.cells (c.setIfInBounds i v) t):=World.setCell_alloc_at (hn:=k.h.symm) ..
end
theorem ZaT(W:World):W=gr W ⟨W.drawn,#[]⟩:=by simp [gr,grow,redrawn]
theorem Y1(W:World):∃ g:Gr,W=gr W g:=⟨_,ZaT W⟩
@[go_sem] theorem ZnA (W:World) (s:ByteArray) (pos:Nat):W.iter s pos=W.alloc (.stringIter s pos):=rfl
theorem ZaR(W:World)(g:Gr)(o o':Obj):{ gr (W.alloc o) g with heap:=(gr (W.alloc o) g).heap.setIfInBounds W.heap.size o' }=gr (W.alloc o') g:=by
 simp only [gr,grow,redrawn,World.alloc]
 congr 1
 have e:(W.heap.push o).setIfInBounds W.heap.size o'=W.heap.push o':=by
  apply Array.ext';simp [Array.setIfInBounds,Array.toList_push]
 rw [<-e];apply Array.ext_getElem?;intro k;simp only [Array.getElem?_setIfInBounds,Array.getElem?_append,Array.size_append,Array.size_push,Array.size_setIfInBounds]
 by_cases h:W.heap.size=k
 ·subst h;simp;omega
 ·simp [h]
theorem jG(P:Program)(W:World)(g:Gr)(s:ByteArray)(pos n:Nat)(ty:TypeId)(k:W.heap.size=n) :
  (Instr.next (.pointer (some ⟨n,0,none⟩)) true ty).run P (gr (W.alloc (.stringIter s pos)) g) =
   if pos<s.size then .ok (.tuple #[.bool true,.int .i64 pos,.int .i32 (Utf8.decode s pos).1]) (gr (W.alloc (.stringIter s (pos+(Utf8.decode s pos).2))) g)
   else .ok (.tuple #[.bool false]) (gr (W.alloc (.stringIter s pos)) g):=by
 subst k
 have h1:(gr (W.alloc (.stringIter s pos)) g).heap[W.heap.size]?=some (.stringIter s pos):=by
  rw [XQ _ _ (by simp)];exact World.iter_heap W s pos
 by_cases h:pos<s.size
 ·simp [Instr.next,getObj,setObj,goInt,Sem.run_bind,Sem.run,h1,Result.andThen,h,ZaR]
 ·simp [Instr.next,getObj,Sem.run,h1,h]
@[go_sem] theorem Zjd {P:Program} (W:World) (g:Gr) (s:ByteArray) (pos n:Nat) (ty:TypeId) [k:ZX W n] :
  (Instr.next (.pointer (some ⟨n,0,none⟩)) true ty).run P (gr (W.alloc (.stringIter s pos)) g) =
   if pos<s.size then .ok (.tuple #[.bool true,.int .i64 pos,.int .i32 (Utf8.decode s pos).1]) (gr (W.alloc (.stringIter s (pos+(Utf8.decode s pos).2))) g)
   else .ok (.tuple #[.bool false]) (gr (W.alloc (.stringIter s pos)) g):=jG P W g s pos n ty k.h
@[go_sem] theorem Zib {P:Program} (W:World) (s:ByteArray) (pos n:Nat) (ty:TypeId) [k:ZX W n] :
  (Instr.next (.pointer (some ⟨n,0,none⟩)) true ty).run P (W.alloc (.stringIter s pos)) =
   if pos<s.size then .ok (.tuple #[.bool true,.int .i64 pos,.int .i32 (Utf8.decode s pos).1]) (W.alloc (.stringIter s (pos+(Utf8.decode s pos).2)))
   else .ok (.tuple #[.bool false]) (W.alloc (.stringIter s pos)):=by
 have hg:∀ X:World,gr X ⟨W.drawn,#[]⟩={ X with drawn:=W.drawn }:=λ X=>by simp [gr,grow,redrawn]
 have h:=jG P W ⟨W.drawn,#[]⟩ s pos n ty k.h;rw [hg,hg]at h;exact h
def Gr.seq(g g':Gr):Gr:=⟨g'.d,g.os++g'.os⟩
@[go_sem] theorem ZW (W:World) (g g':Gr):gr (gr W g) g'=gr W (g.seq g'):=by
 simp only [gr,grow,redrawn,Gr.seq,Array.append_assoc]
def Gr.push(g:Gr)(o:Obj):Gr:=⟨g.d,g.os.push o⟩
theorem ZK(W:World)(g:Gr)(o:Obj):(gr W g).alloc o=gr W (g.push o):=by
 simp only [gr,grow,redrawn,Gr.push,World.alloc,Array.append_push]
theorem Zas(W:World)(g g':Gr)(o:Obj):∃ g2:Gr,gr ((gr W g).alloc o) g'=gr W g2:=⟨_,by rw [ZK,ZW]⟩
theorem VG(W:World)(g:Gr)(o:Obj):∃ g2:Gr,(gr W g).alloc o=gr W g2:=⟨_,ZK W g o⟩
def Gr.drawn(g:Gr):Gr:=⟨g.d+1,g.os⟩
@[go_sem] theorem ZnZ (W:World) (g:Gr):(gr W g).drew=gr W g.drawn:=rfl
@[go_sem] theorem Zni (W:World) (g:Gr):gr W.drew g=gr W g:=rfl
theorem Yb(W:World)(g:Gr):Below W.heap.size W (gr W g):=below_regrown W g.d g.os
theorem Jz{B:Nat}{a W:World}(h:Below B a W)(hB:B<=W.heap.size)(g:Gr):Below B a (gr W g):=h.trans ((Yb W g).mono hB)
theorem Z5{B:Nat}{a W:World}(h:Below B a W)(o:Obj)[k:JL B W]:Below B a (W.alloc o):=h.alloc k.h o
theorem Xc{B:Nat}{a W:World}(h:Below B a W)(g:Gr)[k:JL B W]:Below B a (gr W g):=Jz h k.h g
theorem ZoN(w:World)(o:Obj)(g:Gr):Below w.heap.size w (gr (w.alloc o) g):=Xc (Z5 (Below.refl _ _) _) _
theorem ZfB(w:World)(o:Obj):Below w.heap.size w (w.alloc o):=Z5 (Below.refl _ _) _
theorem Zf{W w':World}(h:Below W.heap.size W w'):∃ g:Gr,w'=gr W g:=by
 obtain⟨p,hp⟩:=regrown_of_below h;exact⟨⟨p.d,p.os⟩,hp⟩
def ZM(v:Value)(w:World)(e:Ending)(w':World):Prop:=e=.returned v/\Below w.heap.size w w'
theorem ZM.mk{v v':Value}{w w':World}(h:v'=v)(hb:Below w.heap.size w w'):ZM v w (.returned v') w':=⟨by rw [h],hb⟩
def KI(P:Program)(f:FuncId)(args:Array Value)(v:Value):Prop:=∀ w,Calls P f args w (ZM v w)
theorem KI.at{P:Program}{f:FuncId}{args:Array Value}{v:Value}(h:KI P f args v)(W:World):Calls P f args W λ e w'=>e=.returned v/\∃ g:Gr,w'=gr W g :=
 (h W).mono λ _ _ ⟨he,hb⟩=>⟨he,Zf hb⟩
theorem KI.inClass{P:Program}{f:FuncId}{args:Array Value}{v:Value}(h:KI P f args v)(W:World)(g:Gr):Calls P f args (gr W g) λ e w''=>e=.returned v/\∃ p:Gr,w''=gr W p :=
 (h (gr W g)).mono λ _ _ ⟨he,hb⟩=>⟨he,by obtain⟨g',h'⟩:=Zf hb;exact⟨g.seq g',by rw [h',ZW]⟩⟩
theorem QN{P:Program}{id:Nat}{Q:Exit->Act->World->Prop}{a:Act}{w:World}{l:List Oper}(hm:P.follows .mixedOrders=true)(hB:Region.lexB .any l.toArray=true)
  (h:wpQuiet P l.toArray (λ w'=>∃ p:Gr,w'=gr w p) (λ a'=>∀ w',(∃ p:Gr,w'=gr w p)->Q .normal a' w') l a):(Code.region id l.toArray true).wp P Q a w :=
 wp_region_quiet (C:=λ w'=>∃ p:Gr,w'=gr w p) hm hB ⟨⟨w.drawn+1,#[]⟩,by simp only [gr,grow_empty];rfl⟩ (by simpa using h)
theorem yf{P:Program}{id:Nat}{Q:Exit->Act->World->Prop}{a:Act}{w:World}{g:Gr}{l:List Oper}(hm:P.follows .mixedOrders=true)(hB:Region.lexB .any l.toArray=true)
  (h:wpQuiet P l.toArray (λ w'=>∃ p:Gr,w'=gr w p) (λ a'=>∀ w',(∃ p:Gr,w'=gr w p)->Q .normal a' w') l a):(Code.region id l.toArray true).wp P Q a (gr w g) :=
 wp_region_quiet (C:=λ w'=>∃ p:Gr,w'=gr w p) hm hB ⟨⟨g.d+1,g.os⟩,rfl⟩ (by simpa using h)
def yA(x y:Int):Int:=if y<x then y else x
def Kb(x y:Int):Int:=if x<y then y else x
@[go_sem ↓] theorem Zm3 {P:Program} {w:World} (ts:Array TypeId) (t:TypeId) (k k':IntKind) (x y:Int):(Builtin.min_ ts t #[.int k x,.int k' y]).run P w=.ok (.int k (yA x y)) w:=by
 simp [Builtin.min_,Builtin.min2,yA]
@[go_sem ↓] theorem Zmv {P:Program} {w:World} (ts:Array TypeId) (t:TypeId) (k k':IntKind) (x y:Int):(Builtin.max_ ts t #[.int k x,.int k' y]).run P w=.ok (.int k (Kb x y)) w:=by
 simp [Builtin.max_,Builtin.max2,Kb]
theorem grown{n:Nat}{W w:World}(h:Below n W w:=by((repeat' (first|(with_reducible exact Below.refl _ _)|(with_reducible refine Xc ?_ _)|(with_reducible refine Z5 ?_ _)|(with_reducible refine Below.setCell ?_ ?_ _)|(with_reducible refine Below.drew ?_)|(simp [go_sem];done)|(simp [go_sem];omega))))):Below n W w:=h
abbrev ii{α:Prop}:=@inferInstance α
section
variable{P:Program}{ops:Array Oper}{md:Region.Mode}{C:World->Prop}
def qu(P:Program)(md:Region.Mode)(ops:Array Oper)(C:World->Prop)(n:Nat)(L:Array Bool->Act->Prop):Nat->Array Bool->Act->Prop
 |0,listed,a=>L listed a
 |f+1,listed,a=>Region.ready md ops listed≠[]/\∀ i∈Region.ready md ops listed,i<n/\qOp P ops C i (qu P md ops C n L f (listed.setIfInBounds i true)) a
theorem Za2{n g:Nat}{L:Array Bool->Act->Prop}{Q':Exit->Act->World->Prop}(hL:∀ listed a w,C w->L listed a->wpAny P md ops Q' g listed a w)
  (f:Nat):∀(listed:Array Bool)(a:Act)(w:World),C w->qu P md ops C n L f listed a->wpAny P md ops Q' (f+g) listed a w:=by
 induction f with
 |zero=>intro listed a w hw h;rw [Nat.zero_add];exact hL _ _ _ hw h
 |succ f ih =>
  intro listed a w hw h;rw [show f+1+g=(f+g)+1 by omega];exact⟨λ h0=>absurd h0 h.1,λ i hi=>wpOp_of_qOp hw (λ a' w' hw' h'=>ih _ a' w' hw' h') (h.2 i hi).2⟩
theorem Vx{n i:Nat}{oi:Oper}{v:Value}{L:Array Bool->Act->Prop}(hi:ops[i]?=some oi)(hsel:∀(j:Nat)(o:Oper) cs b,ops[j]?=some o->o.op≠.select cs b)
  (hs:Region.sinkB md ops n=true) (hc:Region.chainB md ops n=true) (hn:n<ops.size) (hin:i<n)
  (hdone:∀ listed a,L listed a->∀ j∈Region.ready md ops listed,n<=j) (f:Nat) :
  ∀(listed:Array Bool)(a:Act),HeadInv md ops n listed ->
   (∀ j oj,ops[j]?=some oj->j≠i->listed.getD j true=false->(∀ e∈oj.after,Region.binds md e=true->e.on≠i)->oi.apart ops oj=true) ->
   i∈Region.ready md ops listed->YieldsIn P ops C oi v a ->
   qu P md ops C n L f (listed.setIfInBounds i true) (a.put oi.dst v)->qu P md ops C n L (f+1) listed a:=by
 induction f with
 |zero =>
  intro listed a inv _ hr hy H;have hun:=(mem_ready.1 hr).1;refine⟨λ h=>(by rw [h]at hr;cases hr),λ j hj=>?_⟩;have hjn:j<n:=(Nat.lt_or_ge j n).elim id λ h=>absurd hj (tail_waits hs hc hn inv _ i rfl hin hun j h)
  by_cases hji:j=i
  ·subst hji;exact⟨hjn,hy.qOp hi H⟩
  ·have:=hdone _ _ H j (ready_mono hj hji);omega
 |succ f ih =>
  intro listed a inv hfree hr hy H;have hun:=(mem_ready.1 hr).1;refine⟨λ h=>(by rw [h]at hr;cases hr),λ j hj=>?_⟩;have hjn:j<n:=(Nat.lt_or_ge j n).elim id λ h=>absurd hj (tail_waits hs hc hn inv _ i rfl hin hun j h)
  by_cases hji:j=i
  ·subst hji;exact⟨hjn,hy.qOp hi H⟩
  ·refine⟨hjn,?_⟩;have h1:=(H.2 j (ready_mono hj hji)).2;obtain⟨hjun,oj,hoj,hall⟩:=mem_ready.1 hj
   have hnot:∀ e∈oj.after,Region.binds md e=true->e.on≠i:=λ e he hb heq=>by
    have h1:=hall e he hb;rw [heq,getD_both hun]at h1;cases h1
   refine qOp_mono (λ a' h3=>ih (listed.setIfInBounds j true) a' (inv.set hj hjn) ?_ (ready_mono hr (Ne.symm hji)) h3.1 ?_)
    (qOp_put hoj (hfree j oj hoj hji hjun hnot) (λ cs b=>hsel i oi cs b hi) (λ cs b=>hsel j oj cs b hoj) hy h1)
   ·intro k ok hk hki hun hno;refine hfree k ok hk hki ?_ hno
    by_cases hjk:j=k
    ·subst hjk;exact hjun
    ·rw [getD_set_ne true hjk]at hun;exact hun
   ·rw [Array.setIfInBounds_comm _ _ hji];exact h3.2
theorem jt{n g:Nat}{Lq:Act->Prop}(hsel:Region.noSelect ops=true)(hs:Region.sinkB md ops n=true)(hc:Region.chainB md ops n=true)(hn:n<ops.size) :
  ∀(l:List Oper)(k:Nat)(listed:Array Bool)(a:Act),(∀ j,j<l.length->l[j]?=ops[k+j]?)->k+l.length=n->HeadInv md ops n listed ->
  Region.lexHead md ops g l.length k listed=true->wpQuiet P ops C Lq l a ->
  qu P md ops C n (λ listed' a'=>Region.seqB md ops g n listed'=true/\Lq a') l.length listed a
 | [],k,listed,a,_,hk,_,hB,h=>by
  have:k=n:=by simpa using hk
  subst this;exact⟨by simpa [Region.lexHead]using hB,h⟩
 |o::l,k,listed,a,hl,hk,inv,hB,h=>by
  have h0:ops[k]?=some o:=by simpa using(hl 0 (by simp)).symm
  simp only [List.length_cons,Region.lexHead,Bool.and_eq_true]at hB;obtain⟨⟨hr,hf⟩,hB'⟩:=hB;have hkn:k<n:=by simp only [List.length_cons]at hk;omega
  have hr':k∈Region.ready md ops listed:=by simpa using hr
  have hq:qOp P ops C k (wpQuiet P ops C Lq l) a:=by unfold qOp;simp only [h0];exact h
  obtain⟨v,hy,hK⟩:=yieldsIn_of_qOp h0 hq
  exact Vx h0 (Region.noSelect_spec hsel) hs hc hn hkn (λ listed' a' hL=>seqB_ready hL.1) l.length listed a inv (Region.free_spec h0 hf) hr' hy
   (jt hsel hs hc hn l (k+1) _ _ (λ j hj=>by have:=hl (j+1) (by simp;omega);simpa [Nat.add_assoc,Nat.add_comm 1 j]using this) (by simp only [List.length_cons]at hk;omega) (inv.set hr' hkn) hB' hK)
theorem KT{id:Nat}{Q:Exit->Act->World->Prop}{a:Act}{w:World}{l:List Oper}(n:Nat)(hm:P.follows .mixedOrders=true)(hB:Region.lexTailB .any l.toArray n=true)(hC:C { w with drawn:=w.drawn+1 })
  (h:wpQuiet P l.toArray C (λ a'=>∀ w',C w'->wpList P l.toArray Q (l.drop n) a' w') (l.take n) a):(Code.region id l.toArray true).wp P Q a w:=by
 simp only [Region.lexTailB,Bool.and_eq_true,decide_eq_true_eq]at hB;obtain⟨⟨⟨⟨hsel,hn⟩,hs⟩,hc⟩,hlex⟩:=hB;have hn':n<l.length:=by simpa using hn
 have htl:(l.take n).length=n:=by simp;omega
 have hdl:(l.drop n).length=l.toArray.size-n:=by simp
 have inv0:HeadInv .any l.toArray n (Array.replicate l.toArray.size false) :=
  ⟨by simp,λ j oj _ hl=>(by rw [getD_replicate_false]at hl;cases hl),λ t _ ht=>getD_in (by simpa using ht) (getD_replicate_false _ _)⟩
 have H:=jt (md:=.any) (g:=l.toArray.size-n) hsel hs hc hn (l.take n) 0 _ a (λ j hj=>by
  have hj':j<n:=by rw [htl]at hj;exact hj
  simp [hj']) (by simpa using htl) inv0 (by rw [htl];exact hlex) h
 have H2:=Za2 (Q':=Q) (g:=l.toArray.size-n) (λ listed a' w' hw' hL=>by
  have:=wpAny_of_seq (md:=.any) (Q':=Q) (l.drop n) n listed a' w' (λ j=>by simp [List.getElem?_drop]) (by rw [hdl];exact hL.1) (hL.2 w' hw')
  rwa [hdl]at this) _ _ _ _ hC H
 refine wp_region_any hm ?_;rw [htl,show n+(l.toArray.size-n)=l.toArray.size by omega]at H2;exact H2
end
end Go.Proofs.YtlfjdjndhcmliaaGreatDoor
namespace Go.Proofs.YtlfjdjndhcmliaaGreatDoor
open Go.ChangeShapes Go.WideShapes Go.RowKit Go.Joins Go.Deep
theorem Zlh{W:World}{a:Addr}{cs:List Value}(h:W.cells? 0 a 2=some cs):∃ c0 c1,cs=[c0,c1]/\W.cell? a=some c0/\W.cell? (a.add 1)=some c1:=by
 unfold World.cells? at h;simp only [Nat.zero_le,if_true]at h;have e:List.range 2=[0,1]:=rfl;rw [e]at h;cases h0:W.cell? (a.add 0)with
 |none=>simp [h0]at h
 |some c0 =>
  cases h1:W.cell? (a.add 1)with
  |none=>simp [h0,h1]at h
  |some c1 =>
   simp [h0,h1]at h;exact⟨c0,c1,h.symm,by simpa [Addr.add]using h0,rfl⟩
theorem ZgC{P:Program}{t e ti:TypeId}{f0 f1:Field}(ht:P.underlying t=some (.slice e))(he:P.underlying e=some (.struct #[f0,f1]))(hC:P.cellsOf e=2)
  (hi:P.underlying ti=some (.int .i64)) (hCi:P.cellsOf ti=1) (t0:f0.type=ti) (t1:f1.type=ti) (o0:f0.offset=0) (o1:f1.offset=1)
  {H:Type} {enc:TypeId × Value->H} {W:World} {v:Value} {fuel:Nat} {x:DataW H × List MemPlace}
  (hf:DataW.trod enc P W 0 (λ _=>true) true fuel t [v]=some x) :
  ∃(ad:Option Addr)(blk off len cap:Nat)(x y:Nat->Int),v=.slice ad len cap/\len<=maxLen/\(∀ k,k<len->ad=some ⟨blk,off,none⟩/\blk<W.heap.size) /\
   (∀ k,k<len->W.cell? ⟨blk,off+k*2,none⟩=some (.int .i64 (x k)))/\(∀ k,k<len->W.cell? ⟨blk,off+k*2+1,none⟩=some (.int .i64 (y k))):=by
 rcases open_slice ht hf with ⟨hcs,hx⟩|⟨a,len,cap,m,n,D,Pl,hcs,_,hl,hm,hmm,hx,hel⟩
 ·simp at hcs;subst hcs;exact⟨none,0,0,0,0,λ _=>0,λ _=>0,rfl,Nat.zero_le _,λ k hk=>by omega,λ k hk=>by omega,λ k hk=>by omega⟩
 ·simp at hcs;subst hcs;simp only [if_true]at hmm
  have each:∀ i,i<len->∃ p q:Int,W.cell? (a.add (i*2))=some (.int .i64 p)/\W.cell? ((a.add (i*2)).add 1)=some (.int .i64 q):=by
   intro i hi2;obtain⟨cs,hc,hd⟩:=hel i (by omega);rw [hC]at hc;obtain⟨c0,c1,rfl,h0,h1⟩:=Zlh hc;obtain⟨y0,y1,n',_,_,k0,k1⟩:=trod_struct2 he hd;rw [t0,hCi,o0]at k0;rw [t1,hCi,o1]at k1;simp at k0 k1;obtain⟨p,e0,_,_⟩:=DataW.trod_int hi k0;obtain⟨q,e1,_,_⟩:=DataW.trod_int hi k1;simp at e0 e1;exact⟨p,q,by rw [h0,e0],by rw [h1,e1]⟩
  by_cases hp:0<len
  ·obtain⟨b,off,spot⟩:=a
   have hspot:spot=none:=by
    obtain⟨p,q,h0,_⟩:=each 0 hp;simpa [Addr.add]using World.cell?_spot h0
   subst hspot
   have hb:b<W.heap.size:=by
    obtain⟨p,q,h0,_⟩:=each 0 hp;simpa [Addr.add]using World.block_lt_of_cell? _ _ h0
   refine⟨_,b,off,len,cap,λ k=>if h:k<len then Classical.choose (each k h)else 0,λ k=>if h:k<len then Classical.choose (Classical.choose_spec (each k h))else 0,rfl,by omega,λ k hk=>⟨rfl,hb⟩,λ k hk=>?_,λ k hk=>?_⟩
   ·have:=(Classical.choose_spec (Classical.choose_spec (each k hk))).1;simp only [hk,dif_pos];rw [<-Go.WideShapes.add_plain];exact this
   ·have:=(Classical.choose_spec (Classical.choose_spec (each k hk))).2;simp only [hk,dif_pos];rw [<-Go.WideShapes.add_plain,<- Go.WideShapes.add_plain];exact this
  ·exact⟨_,0,0,len,cap,λ _=>0,λ _=>0,rfl,by omega,λ k hk=>by omega,λ k hk=>by omega,λ k hk=>by omega⟩
end Go.Proofs.YtlfjdjndhcmliaaGreatDoor
namespace Go.Proofs.YtlfjdjndhcmliaaGreatDoor
open Go.RowKit
def yZ(X:Int)(j:Nat):Int:=X/2^(8*j)%256
def leB(X:Int)(n:Nat):List Int:=(List.range n).map (yZ X)
def Qp(X:Int)(n:Nat):ByteArray:=strOfNums (leB X n)
theorem ZaL(X:Int)(k:Nat):leB X (k+1)=leB X k++[yZ X k]:=by simp [leB,List.range_succ]
theorem jV(X:Int)(k:Nat):(leB X k).length=k:=by simp [leB]
theorem Tryz.infoB:(Tryz.prog.info? 5).map (λ i=>(i.zero,i.size,i.bytes))=some (some (.int .u8 0),1,1):=by kernel_rfl
set_option maxRecDepth 512 in
theorem qh(X:Int)(n:Nat)(hn:n<=8) :
  KI Tryz.prog 220 #[.int .u64 X,.int .i64 (n:Int)] (.string (Qp X n)):=by
 intro w;obtain⟨i0,hi,hz0,hz1,hz2⟩:=info_parts Tryz.infoB
 go_in
 go_wp2_with fail
 go_loopw [5,8] (λ v i wr=>∃ k:Nat,k<=n/\i=.int .i64 k/\wr.ownsRow w.heap.size 5 1 v k ((leB X k).map (Value.int .u8))/\Below w.heap.size w wr)
  (λ _ i _=>n-(intOf i).toNat)
 case atStart=>exact⟨0,Nat.zero_le _,rfl,World.ownsRow_nil _ _ _ _,Below.refl _ _⟩
 case round =>
  obtain⟨k,hk,rfl,hown,hbel⟩:=hrel;have hsz:=hbel.size
  by_cases hlt:k<n
  ·go_wp2_with(at_builtin;refine wpList_append_own _ rfl _ _ 99 rfl w.heap.size 5 i0 (.int .u8 0) 1 1 Tryz.underlying99 hi hz0 hz1 hz2 rfl (by decide) _ _ _ rfl (hown.alloc _) ⟨wr.heap.size,0,none⟩ 1 1 [.int .u8 (X/2^(8*k)%256)] rfl rfl ?c1 ?c2 ?c3 ?c4 ?c5 ?_)
   case c1=>exact cell_one_new _ _ _
   case c2=>intro u hu;simp at hu;subst hu;rfl
   case c3=>unfold maxLen;omega
   case c4=>omega
   case c5=>simp;omega
   intro v' w1 hown' hgrow _
   have hrow:w1.ownsRow w.heap.size 5 1 v' (k+1) ((leB X (k+1)).map (Value.int .u8)):=by
    rw [ZaL,List.map_append];exact hown'
   have hb1:Below w.heap.size w w1:=(hbel.alloc hsz _).grown hgrow (by simp;omega) (λ j hj=>(hown.lt j hj).1);clear hown' hgrow hown hbel;go_wp2_with fail
   go_roundw
   case rel=>exact⟨k+1,by omega,by go_num,hrow,hb1⟩
   case measure=>simp [intOf];omega
  ·obtain rfl:n=k:=by omega
   have hconv:∀ W:World,(convert 99 9 u5).run Tryz.prog wr=.ok (.string (Qp X n)) wr:=by
    intro _;rcases hown.2 with ⟨rfl,h0⟩|⟨gg,cap,cur,rfl,hbg,hgg,hle,hcap,hcs,htake⟩
    ·subst h0;exact run_convert_bytes_nil wr 99 5 Tryz.underlying99 Tryz.underlying5 _ _ 9 Tryz.underlying9
    ·refine run_convert_bytes_arg wr 99 5 Tryz.underlying99 Tryz.underlying5 gg 0 n cap (leB X n) (jV X n) ?_ 9 Tryz.underlying9;intro j hj;have:=hown.cells (g:=gg) rfl j (.int .u8 ((leB X n).getD j 0)) (by rw [List.getElem?_map,List.getD_eq_getElem?_getD,List.getElem?_eq_getElem (by rw [jV];exact hj)];rfl);have hadd:(⟨gg,0,none⟩:Addr).add j=⟨gg,0+j,none⟩:=by unfold Addr.add;split<;>simp_all
     rw [hadd]at this;exact this
   have hconv':=hconv wr;clear hconv;go_wp2_with fail;go_ret;exact⟨rfl,hbel⟩
@[go_sem] theorem ZF (X:Int) (n:Nat):(Qp X n).size=n:=by rw [Qp,strOfNums_size,jV]
theorem j8(n:Int)(h0:0<=n)(h1:n<=4294967295):KI Tryz.prog 175 #[.int .i64 n] (.string (Qp n 4)):=by
  intro w;have c:KI Tryz.prog 220 #[.int .u64 n,.int .i64 4] (.string (Qp n 4)):=qh n 4 (by omega)
  go_in
  go_wp2_with(go_at_call 220;with_reducible refine(c.at _).mono ?_;rintro e w' ⟨rfl,g,rfl⟩);go_ret;exact ZM.mk rfl grown
theorem ZhX(X:Int)(n:Nat):(Qp X n).data.toList=(leB X n).map λ b=>UInt8.ofNat b.toNat:=rfl
theorem Zh2(X:Int)(j:Nat):0<=yZ X j/\yZ X j<256:=by
 unfold yZ;exact⟨Int.emod_nonneg _ (by omega),Int.emod_lt_of_pos _ (by omega)⟩
end Go.Proofs.YtlfjdjndhcmliaaGreatDoor
namespace Go.Proofs.YtlfjdjndhcmliaaGreatDoor
open Go.RowKit Go.ChangeShapes Go.WideShapes Go.Joins
structure ZO where
 ad:Option Addr
 blk:Nat
 off:Nat
 len:Nat
 cap:Nat
 x:Nat->Int
 y:Nat->Int
class GM(s:ZO)(W:World):Prop where
 addr:∀ k,k<s.len->s.ad=some ⟨s.blk,s.off,none⟩
 old:∀ k,k<s.len->s.blk<W.heap.size
 c0:∀ k,k<s.len->W.cell? ⟨s.blk,s.off+k*2,none⟩=some (.int .i64 (s.x k))
 c1:∀ k,k<s.len->W.cell? ⟨s.blk,s.off+k*2+1,none⟩=some (.int .i64 (s.y k))
instance Zm8(s:ZO)(W:World)(o:Obj)[k:GM s W]:GM s (W.alloc o) where
 addr:=k.addr
 old:=λ j hj=>by have:=k.old j hj;rw [World.size_alloc];omega
 c0:=λ j hj=>by haveI:Yc s.blk W:=⟨k.old j hj⟩;rw [QW];exact k.c0 j hj
 c1:=λ j hj=>by haveI:Yc s.blk W:=⟨k.old j hj⟩;rw [QW];exact k.c1 j hj
instance Zry(s:ZO)(W:World)(g:Gr)[k:GM s W]:GM s (gr W g) where
 addr:=k.addr
 old:=λ j hj=>by have:=k.old j hj;rw [Yl];omega
 c0:=λ j hj=>by haveI:Yc s.blk W:=⟨k.old j hj⟩;rw [Z7];exact k.c0 j hj
 c1:=λ j hj=>by haveI:Yc s.blk W:=⟨k.old j hj⟩;rw [Z7];exact k.c1 j hj
theorem GM.isOld{s:ZO}{W:World}{k:Nat}(m:GM s W)(h:k<s.len):Yc s.blk W:=⟨m.old k h⟩
theorem K5{s:ZO}{W:World}{k:Nat}(m:GM s W)(hk:k<s.len)(W':World) :
  (Instr.indexAt 22 (.slice s.ad s.len s.cap) (.int .i64 (k:Int))).run Tryz.prog W'=.ok (.pointer (some ⟨s.blk,s.off+k*2,none⟩)) W':=by
 rw [m.addr k hk];simp [go_sem,hk]
theorem Calls.at{P:Program}{f:FuncId}{args:Array Value}{v:Value}{W:World}(h:Calls P f args W (ZM v W)):Calls P f args W λ e w'=>e=.returned v/\∃ g:Gr,w'=gr W g :=
 h.mono λ _ _ ⟨he,hb⟩=>⟨he,Zf hb⟩
def oneG(k w:Int):Bool:=decide (k=0/\1<=w/\w<=8\/k=1/\3<=w/\w<=8)
set_option maxRecDepth 512 in
theorem Zj9(k v:Int):KI Tryz.prog 41 #[.agg #[.int .i64 k,.int .i64 v]] (.bool (oneG k v)):=by
 intro w
 by_cases h0:k=0
 ·subst h0
  by_cases h1:1<=v<;>by_cases h8:v<=8
  all_goals try(exfalso;omega)
  all_goals
   go_in
   go_wp2;go_ret;exact ZM.mk (congrArg Value.bool (by unfold oneG;simp;omega)) (ZfB _ _)
 ·have h0':(k==0)=false:=by simp [h0]
  by_cases h2:k=1
  ·subst h2
   by_cases h1:3<=v<;>by_cases h8:v<=8
   all_goals try(exfalso;omega)
   all_goals
    go_in
    go_wp2;go_ret;exact ZM.mk (congrArg Value.bool (by unfold oneG;simp;omega)) (ZfB _ _)
  ·have h2':(k==1)=false:=by simp [h2]
   have e:=Lib.hid (show oneG k v=false by unfold oneG;simp;omega);clear h0 h2
   go_in
   go_wp2;go_ret;exact ZM.mk (congrArg Value.bool (by rw [e.out])) (ZfB _ _)
set_option maxRecDepth 512 in
theorem Zcz(k v:Int):KI Tryz.prog 40 #[.agg #[.int .i64 k,.int .i64 v]] (.bool (!oneG k v)):=by
 intro w
 go_in
 go_wp2_with(go_at_call 41;with_reducible refine((Zj9 _ _).at _).mono ?_;rintro e w' ⟨rfl,g,rfl⟩);go_ret;exact ZM.mk rfl (ZoN _ _ _)
def JB(s:ZO):Nat->Int
 |0=>-1
 |n+1=>if 0<=JB s n then JB s n else if oneG (s.x n) (s.y n)then -1 else n
def Zk5(s:ZO):Prop:=∀ k,k<s.len->oneG (s.x k) (s.y k)=true
theorem qK{s:ZO}{n:Nat}:JB s n<0↔∀ k,k<n->oneG (s.x k) (s.y k)=true:=by
 induction n with
 |zero=>simp [JB]
 |succ n ih =>
  simp only [JB]
  by_cases h:0<=JB s n
  ·rw [if_pos h];constructor
   ·intro h2;omega
   ·intro h2;exact ih.2 (λ k hk=>h2 k (by omega))
  ·rw [if_neg h];have hb:=ih.1 (by omega)
   by_cases ho:oneG (s.x n) (s.y n)=true
   ·rw [if_pos ho];refine⟨λ _ k hk=>?_,λ _=>by omega⟩
    by_cases e:k=n
    ·subst e;exact ho
    ·exact hb k (by omega)
   ·rw [if_neg ho];refine⟨λ h3=>by omega,λ h3=>absurd (h3 n (by omega)) ho⟩
theorem Zbq{s:ZO}{k n:Nat}(h:∀ j,j<k->oneG (s.x j) (s.y j)=true)(hk:oneG (s.x k) (s.y k)=false)(hn:k<n):JB s n=k:=by
 induction n with
 |zero=>omega
 |succ n ih =>
  simp only [JB]
  by_cases e:k=n
  ·subst e;have:=qK.2 h;rw [if_neg (by omega),if_neg (by simp [hk])]
  ·have:=ih (by omega);rw [this,if_pos (by omega)]
theorem Zck{s:ZO}{n:Nat}(h:∀ j,j<n->oneG (s.x j) (s.y j)=true):JB s n=-1:=by
 induction n with
 |zero=>rfl
 |succ n ih =>
  simp only [JB];rw [ih (λ j hj=>h j (by omega))];simp [h n (by omega)]
set_option maxRecDepth 512 in
theorem Zei(s:ZO)(w:World)[m:GM s w](hs:s.len<=9223372036854775807) :
  Calls Tryz.prog 87 #[.slice s.ad s.len s.cap,.func (.func 40) #[] #[]] w (ZM (.int .i64 (JB s s.len)) w):=by
 go_in
 go_wp2_with fail
 go_loopw [8] (λ i wr=>∃ k:Nat,k<=s.len/\i=.int .i64 k/\(∀ j,j<k->oneG (s.x j) (s.y j)=true)/\∃ g':Gr,wr=gr w g')
  (λ i _=>s.len-(intOf i).toNat)
 case atStart=>exact⟨0,Nat.zero_le _,rfl,λ j hj=>by omega,Y1 _⟩
 case round =>
  obtain⟨k,hk,rfl,hall,g',rfl⟩:=hrel;have Hall:=Lib.hid hall;clear hall
  by_cases hlt:k<s.len
  ·have hcx:=m.c0 k hlt;have hcy:=m.c1 k hlt;have hix:=K5 m hlt;haveI hbo:=m.isOld hlt;have c:=Zcz (s.x k) (s.y k);cases ho:oneG (s.x k) (s.y k)
   ·have e:=Lib.hid (Zbq Hall.out ho hlt);rw [ho]at c;clear ho;go_wp2_with(go_at_call 40;with_reducible refine(c.at _).mono ?_;rintro e w' ⟨rfl,g,rfl⟩);go_ret;exact ZM.mk (by rw [e.out];rfl) grown
   ·have Ho:=Lib.hid ho;rw [ho]at c;clear ho;go_wp2_with(go_at_call 40;with_reducible refine(c.at _).mono ?_;rintro e w' ⟨rfl,g,rfl⟩)
    go_roundw
    case rel=>exact⟨k+1,by omega,by go_num,λ j hj=>(by
     by_cases e:j=k
     ·subst e;exact Ho.out
     ·exact Hall.out j (by omega)),_,rfl⟩
    case measure=>simp [intOf];omega
  ·obtain rfl:s.len=k:=by omega
   have e:=Lib.hid (Zck Hall.out);go_wp2_with fail;go_ret;exact ZM.mk (by rw [e.out];rfl) grown
set_option maxRecDepth 512 in
theorem yU(s:ZO)(w:World)[m:GM s w](hs:s.len<=9223372036854775807) :
  Calls Tryz.prog 39 #[.slice s.ad s.len s.cap,.func (.func 40) #[] #[]] w (ZM (.bool (decide (0<=JB s s.len))) w):=by
 go_in
 go_wp2_with(go_at_call 87;with_reducible refine(Calls.at (Zei s _ hs)).mono ?_;rintro e w' ⟨rfl,g,rfl⟩);go_ret;exact ZM.mk rfl grown
def ZT(s:ZO)(secs:Int):Prop:=1<=s.len/\s.len<=4/\24<=secs/\secs<=4096/\Zk5 s
set_option maxRecDepth 512 in
theorem QR{s:ZO}{secs:Int}(h:ZT s secs)(w:World)[m:GM s w] :
  Calls Tryz.prog 13 #[.agg #[.slice s.ad s.len s.cap,.int .i64 secs]] w (ZM (.bool true) w):=by
 obtain⟨h1,h2,h3,h4,h5⟩:=h;have hb:decide (0<=JB s s.len)=false:=by simp;exact qK.2 h5
 have hc:=λ(w:World) [GM s w]=>yU s w (by omega)
 rw [hb]at hc;have Hc:=Lib.hid hc;clear hc hb h5
 go_in
 go_wp2_with(go_at_call 39;with_reducible refine(Calls.at (Hc.out _)).mono ?_;rintro e w' ⟨rfl,g,rfl⟩);go_ret;exact ZM.mk rfl grown
set_option maxRecDepth 512 in
theorem kA{s:ZO}{secs:Int}(h:¬ ZT s secs)(hs:s.len<=9223372036854775807)(w:World)[m:GM s w] :
  Calls Tryz.prog 13 #[.agg #[.slice s.ad s.len s.cap,.int .i64 secs]] w (ZM (.bool false) w):=by
 by_cases h1:1<=s.len
 ·by_cases h2:s.len<=4
  ·by_cases h3:24<=secs
   ·by_cases h4:secs<=4096
    ·have hb:decide (0<=JB s s.len)=true:=by
      simp only [decide_eq_true_eq];refine Int.not_lt.1 λ hn=>h ⟨h1,h2,h3,h4,qK.1 hn⟩
     have hc:=λ(w:World) [GM s w]=>yU s w (by omega)
     rw [hb]at hc;have Hc:=Lib.hid hc;clear hc hb h
     go_in
     go_wp2_with(go_at_call 39;with_reducible refine(Calls.at (Hc.out _)).mono ?_;rintro e w' ⟨rfl,g,rfl⟩);go_ret;exact ZM.mk rfl grown
    ·clear h
     go_in
     go_wp2_with fail;go_ret;exact ZM.mk rfl grown
   ·clear h
    go_in
    go_wp2_with fail;go_ret;exact ZM.mk rfl grown
  ·clear h
   go_in
   go_wp2_with fail;go_ret;exact ZM.mk rfl grown
 ·clear h
  go_in
  go_wp2_with fail;go_ret;exact ZM.mk rfl grown
set_option maxRecDepth 512 in
theorem jT{s:ZO}{secs:Int}{k:Nat}(h:ZT s secs)(hk:k<s.len)(w:World)[m:GM s w] :
  Calls Tryz.prog 183 #[.agg #[.slice s.ad s.len s.cap,.int .i64 secs],.int .i64 (k:Int)] w (ZM (.bool true) w):=by
 have HR:=Lib.hid (λ(w:World) [GM s w]=>QR h w);have hl:=h.2.1;clear h
 go_in
 go_wp2_with(go_at_call 13;with_reducible refine(Calls.at (HR.out _)).mono ?_;rintro e w' ⟨rfl,g,rfl⟩);go_ret;exact ZM.mk rfl grown
set_option maxRecDepth 512 in
theorem qI{s:ZO}{secs n:Int}(h:¬ (ZT s secs/\0<=n/\n<s.len))(hs:s.len<=9223372036854775807)(w:World)[m:GM s w] :
  Calls Tryz.prog 183 #[.agg #[.slice s.ad s.len s.cap,.int .i64 secs],.int .i64 n] w (ZM (.bool false) w):=by
 by_cases hg:ZT s secs
 ·have HR:=Lib.hid (λ(w:World) [GM s w]=>QR hg w);have hl:=hg.2.1
  by_cases h0:0<=n
  ·have h1:¬ n<s.len:=λ h1=>h ⟨hg,h0,h1⟩
   clear h hg
   go_in
   go_wp2_with(go_at_call 13;with_reducible refine(Calls.at (HR.out _)).mono ?_;rintro e w' ⟨rfl,g,rfl⟩);go_ret;exact ZM.mk (congrArg Value.bool (by simp;try omega)) grown
  ·clear h hg
   go_in
   go_wp2_with(go_at_call 13;with_reducible refine(Calls.at (HR.out _)).mono ?_;rintro e w' ⟨rfl,g,rfl⟩);go_ret;exact ZM.mk rfl grown
 ·have HR:=Lib.hid (λ(w:World) [GM s w]=>kA hg hs w);clear h hg
  go_in
  go_wp2_with(go_at_call 13;with_reducible refine(Calls.at (HR.out _)).mono ?_;rintro e w' ⟨rfl,g,rfl⟩);go_ret;exact ZM.mk rfl grown
def YB(s:ZO):Nat->Int
 |0=>0
 |k+1=>YB s k+s.y k
theorem Yk{s:ZO}{secs:Int}(h:ZT s secs){k:Nat}(hk:k<s.len):1<=s.y k/\s.y k<=8/\(s.x k=0\/s.x k=1/\3<=s.y k):=by
 have:=h.2.2.2.2 k hk;unfold oneG at this;simp only [decide_eq_true_eq]at this;omega
theorem XA{s:ZO}{secs:Int}(h:ZT s secs):∀ k,k<=s.len->(k:Int)<=YB s k/\YB s k<=8*k
 |0,_=>by simp [YB]
 |k+1,hk=>by
  have ih:=XA h k (by omega);have:=Yk h (k:=k) (by omega);simp only [YB];omega
set_option maxRecDepth 512 in
theorem ZgQ{s:ZO}{secs:Int}(h:ZT s secs)(w:World)[m:GM s w] :
  Calls Tryz.prog 42 #[.agg #[.slice s.ad s.len s.cap,.int .i64 secs]] w (ZM (.int .i64 (YB s s.len)) w):=by
 have HR:=Lib.hid (λ(w:World) [GM s w]=>QR h w);have hl:=h.2.1;have HG:=Lib.hid h;clear h
 go_in
 go_wp2_with(go_at_call 13;with_reducible refine(Calls.at (HR.out _)).mono ?_;rintro e w' ⟨rfl,g,rfl⟩)
 go_loopw [3,12] (λ n i wr=>∃ k:Nat,k<=s.len/\i=.int .i64 k/\n=.int .i64 (YB s k)/\∃ g':Gr,wr=gr (w.alloc (.cells #[.slice s.ad s.len s.cap,.int .i64 secs] 24)) g')
  (λ _ i _=>s.len-(intOf i).toNat)
 case atStart=>exact⟨0,Nat.zero_le _,rfl,rfl,_,rfl⟩
 case round =>
  obtain⟨k,hk,rfl,rfl,g',rfl⟩:=hrel;have hb:=XA HG.out k hk
  by_cases hlt:k<s.len
  ·have hcx:=m.c0 k hlt;have hcy:=m.c1 k hlt;have hix:=K5 m hlt;haveI hbo:=m.isOld hlt;have hw:=Yk HG.out hlt;go_wp2_with fail
   go_roundw
   case rel=>exact⟨k+1,by omega,by go_num,rfl,VG _ _ _⟩
   case measure=>simp [intOf];omega
  ·obtain rfl:s.len=k:=by omega
   go_wp2_with fail;go_ret;exact ZM.mk rfl grown
set_option maxRecDepth 512 in
theorem Ze2{s:ZO}{secs:Int}{n:Nat}(h:ZT s secs)(hn:n<s.len)(w:World)[m:GM s w] :
  Calls Tryz.prog 256 #[.agg #[.slice s.ad s.len s.cap,.int .i64 secs],.int .i64 (n:Int)] w (ZM (.int .i64 (YB s n)) w):=by
 have HH:=Lib.hid (λ(w:World) [GM s w]=>jT h hn w);have hl:=h.2.1;have HG:=Lib.hid h;clear h
 go_in
 go_wp2_with(go_at_call 183;with_reducible refine(Calls.at (HH.out _)).mono ?_;rintro e w' ⟨rfl,g,rfl⟩)
 go_loopw [5,12] (λ v i wr=>∃ k:Nat,k<=n/\i=.int .i64 k/\v=.int .i64 (YB s k)/\∃ g':Gr,wr=gr (w.alloc (.cells #[.slice s.ad s.len s.cap,.int .i64 secs] 24)) g')
  (λ _ i _=>n-(intOf i).toNat)
 case atStart=>exact⟨0,Nat.zero_le _,rfl,rfl,_,rfl⟩
 case round =>
  obtain⟨k,hk,rfl,rfl,g',rfl⟩:=hrel;have hb:=XA HG.out k (by omega)
  by_cases hlt:k<n
  ·have hlt':k<s.len:=by omega
   have hcx:=m.c0 k hlt';have hcy:=m.c1 k hlt';have hix:=K5 m hlt';haveI hbo:=m.isOld hlt';have hw:=Yk HG.out hlt';go_wp2_with fail
   go_roundw
   case rel=>exact⟨k+1,by omega,by go_num,rfl,_,rfl⟩
   case measure=>simp [intOf];omega
  ·obtain rfl:n=k:=by omega
   go_wp2_with fail;go_ret;exact ZM.mk rfl grown
set_option maxRecDepth 512 in
theorem ZfV{s:ZO}{secs n:Int}(h:¬ (ZT s secs/\0<=n/\n<s.len))(hs:s.len<=9223372036854775807)(w:World)[m:GM s w] :
  Calls Tryz.prog 256 #[.agg #[.slice s.ad s.len s.cap,.int .i64 secs],.int .i64 n] w (ZM (.int .i64 0) w):=by
 have HH:=Lib.hid (λ(w:World) [GM s w]=>qI h hs w);clear h
 go_in
 go_wp2_with(go_at_call 183;with_reducible refine(Calls.at (HH.out _)).mono ?_;rintro e w' ⟨rfl,g,rfl⟩);go_ret;exact ZM.mk rfl grown
end Go.Proofs.YtlfjdjndhcmliaaGreatDoor
