/- WholeGeoms, part 0. -/
import Derived.WalkKit
import Derived.WalkSpells
import Derived.Lib.Hide
import Derived.Lib.QuietBelow
import Derived.BigQuiet
import Derived.Laws.RangeString
import Derived.StillTail
import Derived.ProofKit
import Derived.OpenShut
import Derived.Lib.SmallJoins
import Derived.Deep.Slices
import Derived.Test.YtlfjdjndhcmliaaGreatDoorChecked
import Derived.Laws.BytesArg
import Derived.Handy
import Derived.RangeFuncNested
import Derived.RangeFuncCalls
import Derived.RangeFuncLeaves
import Derived.OwnWalkIn
import Derived.TacticsInMore
import Derived.LoopNIn
import Derived.LoopIn
import Derived.Shelf.Strings.Builder1
import Derived.Shelf.Strings.Builder2
import Derived.Shelf.Strings.OnBuilder
import Derived.Shelf.Strings.Trim
import Derived.Shelf.Small.Utf8
import Derived.Shelf.Small.Bits
import Derived.Shelf.Small.Strs
import Derived.Shelf.Small.Wraps
import Derived.Shelf.Strings.BuilderF
import Derived.Shelf.Strconv.Itoa0
import Derived.Shelf.Strings.Search1
import Derived.Shelf.Sort.Plain
import Derived.Shelf.Strings.Prefix
import Derived.Shelf.Unicode.Decode
import Derived.Shelf.Strings.Runes
import Derived.Shelf.Strings.AsciiSet
import Derived.Shelf.Bits.Mul64
import Derived.Shelf.Strings.Repeat
import Derived.Shelf.Unicode.DecodeSlow
import Derived.Shelf.Unicode.DecodeAny
import Derived.Shelf.Unicode.DecodeLast
import Derived.Shelf.Slices.Turned
import Derived.Ground.Names2Prog
import Derived.Shelf.Slices.Clone
import Derived.Shelf.Slices.CompactI
import Derived.Shelf.Slices.SearchI
import Derived.Shelf.Slices.Cells
import Derived.Ground.SlgnProg
import Derived.Shelf.SlicesE.Clone
import Derived.Test.YtlfjdjndhcmliaaGreatDoorProg
import Derived.Laws.BitsLemmas
set_option maxRecDepth 100000
set_option maxHeartbeats 4000000
set_option linter.all false
namespace Go.Proofs.YtlfjdjndhcmliaaGreatDoor
open Go.RowKit Go.Sort
structure Gr where
 d:Nat
 os:Array Obj
instance:Inhabited Gr:=⟨⟨0,#[]⟩⟩
def gr (W:World) (g:Gr):World:=grow (redrawn W g.d) g.os
theorem gr_size (W:World) (g:Gr):(gr W g).heap.size=W.heap.size+g.os.size:=by simp [gr,grow,redrawn]
theorem gr_heap (W:World) (g:Gr) {n:Nat} (h:n < W.heap.size):(gr W g).heap[n]?=W.heap[n]?:=heap_grow_old (redrawn W g.d) g.os h
class SizeIs (w:World) (n:Nat):Prop where
 h:w.heap.size=n
class Old (n:Nat) (w:World):Prop where
 h:n < w.heap.size
instance (priority:=low) sizeSelf (w:World):SizeIs w w.heap.size:=⟨rfl⟩
instance sizeAlloc (w:World) (o:Obj) (n:Nat) [k:SizeIs w n]:SizeIs (w.alloc o) (n+1):=⟨by rw [World.size_alloc,k.h]⟩
instance sizeSet (w:World) (a:Addr) (v:Value) (n:Nat) [k:SizeIs w n]:SizeIs (w.setCell a v) n:=⟨by rw [World.size_setCell,k.h]⟩
instance oldNew (w:World) (o:Obj) (n:Nat) [k:SizeIs w n]:Old n (w.alloc o):=⟨by rw [World.size_alloc,k.h];omega⟩
instance oldAlloc (w:World) (o:Obj) (n:Nat) [k:Old n w]:Old n (w.alloc o):=⟨by have:=k.h;rw [World.size_alloc];omega⟩
instance oldSet (w:World) (a:Addr) (v:Value) (n:Nat) [k:Old n w]:Old n (w.setCell a v):=⟨by rw [World.size_setCell];exact k.h⟩
instance oldDrew (w:World) (n:Nat) [k:Old n w]:Old n w.drew:=⟨k.h⟩
instance oldGr (w:World) (g:Gr) (n:Nat) [k:Old n w]:Old n (gr w g):=⟨by have:=k.h;rw [gr_size];omega⟩
class Upto (n:Nat) (w:World):Prop where
 h:n<=w.heap.size
instance uptoSelf (w:World):Upto w.heap.size w:=⟨Nat.le_refl _⟩
instance uptoAlloc (w:World) (o:Obj) (n:Nat) [k:Upto n w]:Upto n (w.alloc o):=⟨by have:=k.h;rw [World.size_alloc];omega⟩
instance uptoSet (w:World) (a:Addr) (v:Value) (n:Nat) [k:Upto n w]:Upto n (w.setCell a v):=⟨by rw [World.size_setCell];exact k.h⟩
instance uptoDrew (w:World) (n:Nat) [k:Upto n w]:Upto n w.drew:=⟨k.h⟩
instance uptoGr (w:World) (g:Gr) (n:Nat) [k:Upto n w]:Upto n (gr w g):=⟨by have:=k.h;rw [gr_size];omega⟩
section
variable (W:World) (g:Gr) (n i:Nat)
@[go_sem] theorem old_lt [k:Old n W]:(n < W.heap.size)=True:=by simp [k.h]
@[go_sem] theorem old_le [k:Upto n W]:(n<=W.heap.size)=True:=by simp [k.h]
@[go_sem] theorem old_lt_add (m:Nat) [k:Old n W]:(n < W.heap.size+m)=True:=by have:=k.h;simp;omega
@[go_sem] theorem old_le_add (m:Nat) [k:Upto n W]:(n<=W.heap.size+m)=True:=by have:=k.h;simp;omega
@[go_sem] theorem old_ne [k:Old n W]:(W.heap.size=n)=False:=by have:=k.h;simp;omega
@[go_sem] theorem old_ne' [k:Old n W]:(n=W.heap.size)=False:=by have:=k.h;simp;omega
theorem size_le_gr:W.heap.size<=(gr W g).heap.size:=by rw [gr_size];omega
@[go_sem] theorem cell_gr [k:Old n W]:(gr W g).cell? ⟨n,i,none⟩=W.cell? ⟨n,i,none⟩:=cell?_grow (redrawn W g.d) g.os ⟨n,i,none⟩ k.h
@[go_sem] theorem frozen_gr [k:Old n W]:(gr W g).frozen? ⟨n,i,none⟩=W.frozen? ⟨n,i,none⟩:=frozen?_grow (redrawn W g.d) g.os ⟨n,i,none⟩ k.h
@[go_sem] theorem setCell_gr (v:Value) [k:Old n W]:(gr W g).setCell ⟨n,i,none⟩ v=gr (W.setCell ⟨n,i,none⟩ v) g:=by
 simp only [gr,World.setCell,grow,redrawn]
 rw [modify_append_left _ _ _ _ k.h]
@[go_sem] theorem cell_past (o:Obj) [k:Old n W]:(W.alloc o).cell? ⟨n,i,none⟩=W.cell? ⟨n,i,none⟩:=World.cell?_alloc_lt _ _ _ k.h
@[go_sem] theorem frozen_past (o:Obj) [k:Old n W]:(W.alloc o).frozen? ⟨n,i,none⟩=W.frozen? ⟨n,i,none⟩:=World.frozen?_alloc_old _ _ _ (by have:=k.h;show n≠_;omega)
@[go_sem] theorem setCell_past (o:Obj) (v:Value) [k:Old n W]:(W.alloc o).setCell ⟨n,i,none⟩ v=(W.setCell ⟨n,i,none⟩ v).alloc o:=World.setCell_alloc_past (hn:=k.h) ..
@[go_sem] theorem cell_at (c:Array Value) (t:TypeId) [k:SizeIs W n]:(W.alloc (.cells c t)).cell? ⟨n,i,none⟩=c[i]?:=World.cell?_alloc_at (hn:=k.h.symm) ..
@[go_sem] theorem frozen_at (c:Array Value) (t:TypeId) [k:SizeIs W n]:(W.alloc (.cells c t)).frozen? ⟨n,i,none⟩=false:=World.frozen?_alloc_at (hn:=k.h.symm) ..
@[go_sem] theorem setCell_at (c:Array Value) (t:TypeId) (v:Value) [k:SizeIs W n]:(W.alloc (.cells c t)).setCell ⟨n,i,none⟩ v=W.alloc (.cells (c.setIfInBounds i v) t):=World.setCell_alloc_at (hn:=k.h.symm) ..
end
theorem gr_id (W:World):W=gr W ⟨W.drawn,#[]⟩:=by simp [gr,grow,redrawn]
theorem ex_gr (W:World):∃ g:Gr,W=gr W g:=⟨_,gr_id W⟩
@[go_sem] theorem iter_eq (W:World) (s:ByteArray) (pos:Nat):W.iter s pos=W.alloc (.stringIter s pos):=rfl
theorem heap_set_gr (W:World) (g:Gr) (o o':Obj):{ gr (W.alloc o) g with heap:=(gr (W.alloc o) g).heap.setIfInBounds W.heap.size o' }=gr (W.alloc o') g:=by
 simp only [gr,grow,redrawn,World.alloc]
 congr 1
 have e:(W.heap.push o).setIfInBounds W.heap.size o'=W.heap.push o':=by
  apply Array.ext'
  simp [Array.setIfInBounds,Array.toList_push]
 rw [<-e]
 apply Array.ext_getElem?
 intro k
 simp only [Array.getElem?_setIfInBounds,Array.getElem?_append,Array.size_append,Array.size_push,Array.size_setIfInBounds]
 by_cases h:W.heap.size=k
 ·subst h;simp;omega
 ·simp [h]
theorem run_next_gr (P:Program) (W:World) (g:Gr) (s:ByteArray) (pos n:Nat) (ty:TypeId) (k:W.heap.size=n) :
  (Instr.next (.pointer (some ⟨n,0,none⟩)) true ty).run P (gr (W.alloc (.stringIter s pos)) g) =
   if pos < s.size then .ok (.tuple #[.bool true,.int .i64 pos,.int .i32 (Utf8.decode s pos).1]) (gr (W.alloc (.stringIter s (pos+(Utf8.decode s pos).2))) g)
   else .ok (.tuple #[.bool false]) (gr (W.alloc (.stringIter s pos)) g):=by
 subst k
 have h1:(gr (W.alloc (.stringIter s pos)) g).heap[W.heap.size]?=some (.stringIter s pos):=by
  rw [gr_heap _ _ (by simp)];exact World.iter_heap W s pos
 by_cases h:pos < s.size
 ·simp [Instr.next,getObj,setObj,goInt,Sem.run_bind,Sem.run,h1,Result.andThen,h,heap_set_gr]
 ·simp [Instr.next,getObj,Sem.run,h1,h]
@[go_sem] theorem run_next_str {P:Program} (W:World) (g:Gr) (s:ByteArray) (pos n:Nat) (ty:TypeId) [k:SizeIs W n] :
  (Instr.next (.pointer (some ⟨n,0,none⟩)) true ty).run P (gr (W.alloc (.stringIter s pos)) g) =
   if pos < s.size then .ok (.tuple #[.bool true,.int .i64 pos,.int .i32 (Utf8.decode s pos).1]) (gr (W.alloc (.stringIter s (pos+(Utf8.decode s pos).2))) g)
   else .ok (.tuple #[.bool false]) (gr (W.alloc (.stringIter s pos)) g):=run_next_gr P W g s pos n ty k.h
@[go_sem] theorem run_next_str' {P:Program} (W:World) (s:ByteArray) (pos n:Nat) (ty:TypeId) [k:SizeIs W n] :
  (Instr.next (.pointer (some ⟨n,0,none⟩)) true ty).run P (W.alloc (.stringIter s pos)) =
   if pos < s.size then .ok (.tuple #[.bool true,.int .i64 pos,.int .i32 (Utf8.decode s pos).1]) (W.alloc (.stringIter s (pos+(Utf8.decode s pos).2)))
   else .ok (.tuple #[.bool false]) (W.alloc (.stringIter s pos)):=by
 have hg:∀ X:World,gr X ⟨W.drawn,#[]⟩={ X with drawn:=W.drawn }:=λ X=>by simp [gr,grow,redrawn]
 have h:=run_next_gr P W ⟨W.drawn,#[]⟩ s pos n ty k.h
 rw [hg,hg] at h
 exact h
def Gr.seq (g g':Gr):Gr:=⟨g'.d,g.os++g'.os⟩
@[go_sem] theorem gr_gr (W:World) (g g':Gr):gr (gr W g) g'=gr W (g.seq g'):=by
 simp only [gr,grow,redrawn,Gr.seq,Array.append_assoc]
def Gr.push (g:Gr) (o:Obj):Gr:=⟨g.d,g.os.push o⟩
theorem gr_alloc (W:World) (g:Gr) (o:Obj):(gr W g).alloc o=gr W (g.push o):=by
 simp only [gr,grow,redrawn,Gr.push,World.alloc,Array.append_push]
theorem ex_gr_alloc (W:World) (g g':Gr) (o:Obj):∃ g2:Gr,gr ((gr W g).alloc o) g'=gr W g2:=⟨_,by rw [gr_alloc,gr_gr]⟩
theorem ex_gr_alloc' (W:World) (g:Gr) (o:Obj):∃ g2:Gr,(gr W g).alloc o=gr W g2:=⟨_,gr_alloc W g o⟩
def Gr.drawn (g:Gr):Gr:=⟨g.d+1,g.os⟩
@[go_sem] theorem gr_drew (W:World) (g:Gr):(gr W g).drew=gr W g.drawn:=rfl
@[go_sem] theorem drew_gr (W:World) (g:Gr):gr W.drew g=gr W g:=rfl
theorem below_gr (W:World) (g:Gr):Below W.heap.size W (gr W g):=below_regrown W g.d g.os
theorem belowGr {B:Nat} {a W:World} (h:Below B a W) (hB:B<=W.heap.size) (g:Gr):Below B a (gr W g):=h.trans ((below_gr W g).mono hB)
theorem belowAlloc {B:Nat} {a W:World} (h:Below B a W) (o:Obj) [k:Upto B W]:Below B a (W.alloc o):=h.alloc k.h o
theorem belowGrU {B:Nat} {a W:World} (h:Below B a W) (g:Gr) [k:Upto B W]:Below B a (gr W g):=belowGr h k.h g
theorem bel1 (w:World) (o:Obj) (g:Gr):Below w.heap.size w (gr (w.alloc o) g):=belowGrU (belowAlloc (Below.refl _ _) _) _
theorem bel1' (w:World) (o:Obj):Below w.heap.size w (w.alloc o):=belowAlloc (Below.refl _ _) _
theorem gr_of_below {W w':World} (h:Below W.heap.size W w'):∃ g:Gr,w'=gr W g:=by
 obtain ⟨p,hp⟩:=regrown_of_below h
 exact ⟨⟨p.d,p.os⟩,hp⟩
def Ret (v:Value) (w:World) (e:Ending) (w':World):Prop:=e=.returned v/\Below w.heap.size w w'
theorem Ret.mk {v v':Value} {w w':World} (h:v'=v) (hb:Below w.heap.size w w'):Ret v w (.returned v') w':=⟨by rw [h],hb⟩
def Pure (P:Program) (f:FuncId) (args:Array Value) (v:Value):Prop:=∀ w,Calls P f args w (Ret v w)
theorem Pure.at {P:Program} {f:FuncId} {args:Array Value} {v:Value} (h:Pure P f args v) (W:World):Calls P f args W λ e w'=>e=.returned v/\∃ g:Gr,w'=gr W g :=
 (h W).mono λ _ _ ⟨he,hb⟩=>⟨he,gr_of_below hb⟩
theorem Pure.inClass {P:Program} {f:FuncId} {args:Array Value} {v:Value} (h:Pure P f args v) (W:World) (g:Gr):Calls P f args (gr W g) λ e w''=>e=.returned v/\∃ p:Gr,w''=gr W p :=
 (h (gr W g)).mono λ _ _ ⟨he,hb⟩=>⟨he,by obtain ⟨g',h'⟩:=gr_of_below hb;exact ⟨g.seq g',by rw [h',gr_gr]⟩⟩
theorem wp_region_gr {P:Program} {id:Nat} {Q:Exit->Act->World->Prop} {a:Act} {w:World} {l:List Oper} (hm:P.follows .mixedOrders=true) (hB:Region.lexB .any l.toArray=true)
  (h:wpQuiet P l.toArray (λ w'=>∃ p:Gr,w'=gr w p) (λ a'=>∀ w',(∃ p:Gr,w'=gr w p)->Q .normal a' w') l a):(Code.region id l.toArray true).wp P Q a w :=
 wp_region_quiet (C:=λ w'=>∃ p:Gr,w'=gr w p) hm hB ⟨⟨w.drawn+1,#[]⟩,by simp only [gr,grow_empty];rfl⟩ (by simpa using h)
theorem wp_region_gr2 {P:Program} {id:Nat} {Q:Exit->Act->World->Prop} {a:Act} {w:World} {g:Gr} {l:List Oper} (hm:P.follows .mixedOrders=true) (hB:Region.lexB .any l.toArray=true)
  (h:wpQuiet P l.toArray (λ w'=>∃ p:Gr,w'=gr w p) (λ a'=>∀ w',(∃ p:Gr,w'=gr w p)->Q .normal a' w') l a):(Code.region id l.toArray true).wp P Q a (gr w g) :=
 wp_region_quiet (C:=λ w'=>∃ p:Gr,w'=gr w p) hm hB ⟨⟨g.d+1,g.os⟩,rfl⟩ (by simpa using h)
def imin (x y:Int):Int:=if y < x then y else x
def imax (x y:Int):Int:=if x < y then y else x
@[go_sem ↓] theorem run_imin {P:Program} {w:World} (ts:Array TypeId) (t:TypeId) (k k':IntKind) (x y:Int):(Builtin.min_ ts t #[.int k x,.int k' y]).run P w=.ok (.int k (imin x y)) w:=by
 simp [Builtin.min_,Builtin.min2,imin]
@[go_sem ↓] theorem run_imax {P:Program} {w:World} (ts:Array TypeId) (t:TypeId) (k k':IntKind) (x y:Int):(Builtin.max_ ts t #[.int k x,.int k' y]).run P w=.ok (.int k (imax x y)) w:=by
 simp [Builtin.max_,Builtin.max2,imax]
theorem grown {n:Nat} {W w:World} (h:Below n W w:=by ((repeat' (first | (with_reducible exact Below.refl _ _) | (with_reducible refine belowGrU ?_ _) | (with_reducible refine belowAlloc ?_ _) | (with_reducible refine Below.setCell ?_ ?_ _) | (with_reducible refine Below.drew ?_) | (simp [go_sem];done) | (simp [go_sem];omega))))):Below n W w:=h
abbrev ii {α:Prop}:=@inferInstance α
section
variable {P:Program} {ops:Array Oper} {md:Region.Mode} {C:World->Prop}
def headAny (P:Program) (md:Region.Mode) (ops:Array Oper) (C:World->Prop) (n:Nat) (L:Array Bool->Act->Prop):Nat->Array Bool->Act->Prop
 | 0,listed,a=>L listed a
 | f+1,listed,a=>Region.ready md ops listed≠[]/\∀ i∈Region.ready md ops listed,i < n/\qOp P ops C i (headAny P md ops C n L f (listed.setIfInBounds i true)) a
theorem headAny_run {n g:Nat} {L:Array Bool->Act->Prop} {Q':Exit->Act->World->Prop} (hL:∀ listed a w,C w->L listed a->wpAny P md ops Q' g listed a w)
  (f:Nat):∀ (listed:Array Bool) (a:Act) (w:World),C w->headAny P md ops C n L f listed a->wpAny P md ops Q' (f+g) listed a w:=by
 induction f with
 | zero=>intro listed a w hw h;rw [Nat.zero_add];exact hL _ _ _ hw h
 | succ f ih =>
  intro listed a w hw h
  rw [show f+1+g=(f+g)+1 by omega]
  exact ⟨λ h0=>absurd h0 h.1,λ i hi=>wpOp_of_qOp hw (λ a' w' hw' h'=>ih _ a' w' hw' h') (h.2 i hi).2⟩
theorem headAny_take {n i:Nat} {oi:Oper} {v:Value} {L:Array Bool->Act->Prop} (hi:ops[i]?=some oi) (hsel:∀ (j:Nat) (o:Oper) cs b,ops[j]?=some o->o.op≠.select cs b)
  (hs:Region.sinkB md ops n=true) (hc:Region.chainB md ops n=true) (hn:n < ops.size) (hin:i < n)
  (hdone:∀ listed a,L listed a->∀ j∈Region.ready md ops listed,n<=j) (f:Nat) :
  ∀ (listed:Array Bool) (a:Act),HeadInv md ops n listed ->
   (∀ j oj,ops[j]?=some oj->j≠i->listed.getD j true=false->(∀ e∈oj.after,Region.binds md e=true->e.on≠i)->oi.apart ops oj=true) ->
   i∈Region.ready md ops listed->YieldsIn P ops C oi v a ->
   headAny P md ops C n L f (listed.setIfInBounds i true) (a.put oi.dst v)->headAny P md ops C n L (f+1) listed a:=by
 induction f with
 | zero =>
  intro listed a inv _ hr hy H
  have hun:=(mem_ready.1 hr).1
  refine ⟨λ h=>(by rw [h] at hr;cases hr),λ j hj=>?_⟩
  have hjn:j < n:=(Nat.lt_or_ge j n).elim id λ h=>absurd hj (tail_waits hs hc hn inv _ i rfl hin hun j h)
  by_cases hji:j=i
  ·subst hji;exact ⟨hjn,hy.qOp hi H⟩
  ·have:=hdone _ _ H j (ready_mono hj hji);omega
 | succ f ih =>
  intro listed a inv hfree hr hy H
  have hun:=(mem_ready.1 hr).1
  refine ⟨λ h=>(by rw [h] at hr;cases hr),λ j hj=>?_⟩
  have hjn:j < n:=(Nat.lt_or_ge j n).elim id λ h=>absurd hj (tail_waits hs hc hn inv _ i rfl hin hun j h)
  by_cases hji:j=i
  ·subst hji;exact ⟨hjn,hy.qOp hi H⟩
  ·refine ⟨hjn,?_⟩
   have h1:=(H.2 j (ready_mono hj hji)).2
   obtain ⟨hjun,oj,hoj,hall⟩:=mem_ready.1 hj
   have hnot:∀ e∈oj.after,Region.binds md e=true->e.on≠i:=λ e he hb heq=>by
    have h1:=hall e he hb
    rw [heq,getD_both hun] at h1
    cases h1
   refine qOp_mono (λ a' h3=>ih (listed.setIfInBounds j true) a' (inv.set hj hjn) ?_ (ready_mono hr (Ne.symm hji)) h3.1 ?_)
    (qOp_put hoj (hfree j oj hoj hji hjun hnot) (λ cs b=>hsel i oi cs b hi) (λ cs b=>hsel j oj cs b hoj) hy h1)
   ·intro k ok hk hki hun hno
    refine hfree k ok hk hki ?_ hno
    by_cases hjk:j=k
    ·subst hjk;exact hjun
    ·rw [getD_set_ne true hjk] at hun;exact hun
   ·rw [Array.setIfInBounds_comm _ _ hji]
    exact h3.2
theorem headAny_lex {n g:Nat} {Lq:Act->Prop} (hsel:Region.noSelect ops=true) (hs:Region.sinkB md ops n=true) (hc:Region.chainB md ops n=true) (hn:n < ops.size) :
  ∀ (l:List Oper) (k:Nat) (listed:Array Bool) (a:Act),(∀ j,j < l.length->l[j]?=ops[k+j]?)->k+l.length=n->HeadInv md ops n listed ->
  Region.lexHead md ops g l.length k listed=true->wpQuiet P ops C Lq l a ->
  headAny P md ops C n (λ listed' a'=>Region.seqB md ops g n listed'=true/\Lq a') l.length listed a
 | [],k,listed,a,_,hk,_,hB,h=>by
  have:k=n:=by simpa using hk
  subst this
  exact ⟨by simpa [Region.lexHead] using hB,h⟩
 | o::l,k,listed,a,hl,hk,inv,hB,h=>by
  have h0:ops[k]?=some o:=by simpa using (hl 0 (by simp)).symm
  simp only [List.length_cons,Region.lexHead,Bool.and_eq_true] at hB
  obtain ⟨⟨hr,hf⟩,hB'⟩:=hB
  have hkn:k < n:=by simp only [List.length_cons] at hk;omega
  have hr':k∈Region.ready md ops listed:=by simpa using hr
  have hq:qOp P ops C k (wpQuiet P ops C Lq l) a:=by unfold qOp;simp only [h0];exact h
  obtain ⟨v,hy,hK⟩:=yieldsIn_of_qOp h0 hq
  exact headAny_take h0 (Region.noSelect_spec hsel) hs hc hn hkn (λ listed' a' hL=>seqB_ready hL.1) l.length listed a inv (Region.free_spec h0 hf) hr' hy
   (headAny_lex hsel hs hc hn l (k+1) _ _ (λ j hj=>by have:=hl (j+1) (by simp;omega);simpa [Nat.add_assoc,Nat.add_comm 1 j] using this) (by simp only [List.length_cons] at hk;omega) (inv.set hr' hkn) hB' hK)
theorem wp_region_class_tail {id:Nat} {Q:Exit->Act->World->Prop} {a:Act} {w:World} {l:List Oper} (n:Nat) (hm:P.follows .mixedOrders=true) (hB:Region.lexTailB .any l.toArray n=true) (hC:C { w with drawn:=w.drawn+1 })
  (h:wpQuiet P l.toArray C (λ a'=>∀ w',C w'->wpList P l.toArray Q (l.drop n) a' w') (l.take n) a):(Code.region id l.toArray true).wp P Q a w:=by
 simp only [Region.lexTailB,Bool.and_eq_true,decide_eq_true_eq] at hB
 obtain ⟨⟨⟨⟨hsel,hn⟩,hs⟩,hc⟩,hlex⟩:=hB
 have hn':n < l.length:=by simpa using hn
 have htl:(l.take n).length=n:=by simp;omega
 have hdl:(l.drop n).length=l.toArray.size - n:=by simp
 have inv0:HeadInv .any l.toArray n (Array.replicate l.toArray.size false) :=
  ⟨by simp,λ j oj _ hl=>(by rw [getD_replicate_false] at hl;cases hl),λ t _ ht=>getD_in (by simpa using ht) (getD_replicate_false _ _)⟩
 have H:=headAny_lex (md:=.any) (g:=l.toArray.size - n) hsel hs hc hn (l.take n) 0 _ a (λ j hj=>by
  have hj':j < n:=by rw [htl] at hj;exact hj
  simp [hj']) (by simpa using htl) inv0 (by rw [htl];exact hlex) h
 have H2:=headAny_run (Q':=Q) (g:=l.toArray.size - n) (λ listed a' w' hw' hL=>by
  have:=wpAny_of_seq (md:=.any) (Q':=Q) (l.drop n) n listed a' w' (λ j=>by simp [List.getElem?_drop]) (by rw [hdl];exact hL.1) (hL.2 w' hw')
  rwa [hdl] at this) _ _ _ _ hC H
 refine wp_region_any hm ?_
 rw [htl,show n+(l.toArray.size - n)=l.toArray.size by omega] at H2
 exact H2
end
end Go.Proofs.YtlfjdjndhcmliaaGreatDoor
namespace Go.Proofs.YtlfjdjndhcmliaaGreatDoor
open Go.ChangeShapes Go.WideShapes Go.RowKit Go.Joins Go.Deep
theorem cells2 {W:World} {a:Addr} {cs:List Value} (h:W.cells? 0 a 2=some cs):∃ c0 c1,cs=[c0,c1]/\W.cell? a=some c0/\W.cell? (a.add 1)=some c1:=by
 unfold World.cells? at h
 simp only [Nat.zero_le,if_true] at h
 have e:List.range 2=[0,1]:=rfl
 rw [e] at h
 cases h0:W.cell? (a.add 0) with
 | none=>simp [h0] at h
 | some c0 =>
  cases h1:W.cell? (a.add 1) with
  | none=>simp [h0,h1] at h
  | some c1 =>
   simp [h0,h1] at h
   exact ⟨c0,c1,h.symm,by simpa [Addr.add] using h0,rfl⟩
theorem trod_sl2 {P:Program} {t e ti:TypeId} {f0 f1:Field} (ht:P.underlying t=some (.slice e)) (he:P.underlying e=some (.struct #[f0,f1])) (hC:P.cellsOf e=2)
  (hi:P.underlying ti=some (.int .i64)) (hCi:P.cellsOf ti=1) (t0:f0.type=ti) (t1:f1.type=ti) (o0:f0.offset=0) (o1:f1.offset=1)
  {H:Type} {enc:TypeId × Value->H} {W:World} {v:Value} {fuel:Nat} {x:DataW H × List MemPlace}
  (hf:DataW.trod enc P W 0 (λ _=>true) true fuel t [v]=some x) :
  ∃ (ad:Option Addr) (blk off len cap:Nat) (x y:Nat->Int),v=.slice ad len cap/\len<=maxLen/\(∀ k,k < len->ad=some ⟨blk,off,none⟩/\blk < W.heap.size) /\
   (∀ k,k < len->W.cell? ⟨blk,off+k*2,none⟩=some (.int .i64 (x k)))/\(∀ k,k < len->W.cell? ⟨blk,off+k*2+1,none⟩=some (.int .i64 (y k))):=by
 rcases open_slice ht hf with ⟨hcs,hx⟩ | ⟨a,len,cap,m,n,D,Pl,hcs,_,hl,hm,hmm,hx,hel⟩
 ·simp at hcs
  subst hcs
  exact ⟨none,0,0,0,0,λ _=>0,λ _=>0,rfl,Nat.zero_le _,λ k hk=>by omega,λ k hk=>by omega,λ k hk=>by omega⟩
 ·simp at hcs
  subst hcs
  simp only [if_true] at hmm
  have each:∀ i,i < len->∃ p q:Int,W.cell? (a.add (i*2))=some (.int .i64 p)/\W.cell? ((a.add (i*2)).add 1)=some (.int .i64 q):=by
   intro i hi2
   obtain ⟨cs,hc,hd⟩:=hel i (by omega)
   rw [hC] at hc
   obtain ⟨c0,c1,rfl,h0,h1⟩:=cells2 hc
   obtain ⟨y0,y1,n',_,_,k0,k1⟩:=trod_struct2 he hd
   rw [t0,hCi,o0] at k0
   rw [t1,hCi,o1] at k1
   simp at k0 k1
   obtain ⟨p,e0,_,_⟩:=DataW.trod_int hi k0
   obtain ⟨q,e1,_,_⟩:=DataW.trod_int hi k1
   simp at e0 e1
   exact ⟨p,q,by rw [h0,e0],by rw [h1,e1]⟩
  by_cases hp:0 < len
  ·obtain ⟨b,off,spot⟩:=a
   have hspot:spot=none:=by
    obtain ⟨p,q,h0,_⟩:=each 0 hp
    simpa [Addr.add] using World.cell?_spot h0
   subst hspot
   have hb:b < W.heap.size:=by
    obtain ⟨p,q,h0,_⟩:=each 0 hp
    simpa [Addr.add] using World.block_lt_of_cell? _ _ h0
   refine ⟨_,b,off,len,cap,λ k=>if h:k < len then Classical.choose (each k h) else 0,λ k=>if h:k < len then Classical.choose (Classical.choose_spec (each k h)) else 0,rfl,by omega,λ k hk=>⟨rfl,hb⟩,λ k hk=>?_,λ k hk=>?_⟩
   ·have:=(Classical.choose_spec (Classical.choose_spec (each k hk))).1
    simp only [hk,dif_pos]
    rw [<-Go.WideShapes.add_plain]
    exact this
   ·have:=(Classical.choose_spec (Classical.choose_spec (each k hk))).2
    simp only [hk,dif_pos]
    rw [<-Go.WideShapes.add_plain,<- Go.WideShapes.add_plain]
    exact this
  ·exact ⟨_,0,0,len,cap,λ _=>0,λ _=>0,rfl,by omega,λ k hk=>by omega,λ k hk=>by omega,λ k hk=>by omega⟩
end Go.Proofs.YtlfjdjndhcmliaaGreatDoor
namespace Go.Proofs.YtlfjdjndhcmliaaGreatDoor
open Go.RowKit
def byteN (X:Int) (j:Nat):Int:=X / 2 ^ (8*j) % 256
def leB (X:Int) (n:Nat):List Int:=(List.range n).map (byteN X)
def leS (X:Int) (n:Nat):ByteArray:=strOfNums (leB X n)
theorem leB_succ (X:Int) (k:Nat):leB X (k+1)=leB X k++[byteN X k]:=by simp [leB,List.range_succ]
theorem leB_len (X:Int) (k:Nat):(leB X k).length=k:=by simp [leB]
theorem Tryz.infoB:(Tryz.prog.info? 5).map (λ i=>(i.zero,i.size,i.bytes))=some (some (.int .u8 0),1,1):=by kernel_rfl
set_option maxRecDepth 512 in
theorem laid_any (X:Int) (n:Nat) (hn:n<=8) :
  Pure Tryz.prog 220 #[.int .u64 X,.int .i64 (n:Int)] (.string (leS X n)):=by
 intro w
 obtain ⟨i0,hi,hz0,hz1,hz2⟩:=info_parts Tryz.infoB
 go_enter Tryz.func220,Tryz.ntmps220
 go_wp2_with fail
 go_loopw [5,8] (λ v i wr=>∃ k:Nat,k<=n/\i=.int .i64 k/\wr.ownsRow w.heap.size 5 1 v k ((leB X k).map (Value.int .u8))/\Below w.heap.size w wr)
  (λ _ i _=>n - (intOf i).toNat)
 case atStart=>exact ⟨0,Nat.zero_le _,rfl,World.ownsRow_nil _ _ _ _,Below.refl _ _⟩
 case round =>
  obtain ⟨k,hk,rfl,hown,hbel⟩:=hrel
  have hsz:=hbel.size
  by_cases hlt:k < n
  ·go_wp2_with (at_builtin;refine wpList_append_own _ rfl _ _ 99 rfl w.heap.size 5 i0 (.int .u8 0) 1 1 Tryz.underlying99 hi hz0 hz1 hz2 rfl (by decide) _ _ _ rfl (hown.alloc _) ⟨wr.heap.size,0,none⟩ 1 1 [.int .u8 (X / 2 ^ (8*k) % 256)] rfl rfl ?c1 ?c2 ?c3 ?c4 ?c5 ?_)
   case c1=>exact cell_one_new _ _ _
   case c2=>intro u hu;simp at hu;subst hu;rfl
   case c3=>unfold maxLen;omega
   case c4=>omega
   case c5=>simp;omega
   intro v' w1 hown' hgrow _
   have hrow:w1.ownsRow w.heap.size 5 1 v' (k+1) ((leB X (k+1)).map (Value.int .u8)):=by
    rw [leB_succ,List.map_append];exact hown'
   have hb1:Below w.heap.size w w1:=(hbel.alloc hsz _).grown hgrow (by simp;omega) (λ j hj=>(hown.lt j hj).1)
   clear hown' hgrow hown hbel
   go_wp2_with fail
   go_roundw
   case rel=>exact ⟨k+1,by omega,by go_num,hrow,hb1⟩
   case measure=>simp [intOf];omega
  ·obtain rfl:n=k:=by omega
   have hconv:∀ W:World,(convert 99 9 u5).run Tryz.prog wr=.ok (.string (leS X n)) wr:=by
    intro _
    rcases hown.2 with ⟨rfl,h0⟩ | ⟨gg,cap,cur,rfl,hbg,hgg,hle,hcap,hcs,htake⟩
    ·subst h0
     exact run_convert_bytes_nil wr 99 5 Tryz.underlying99 Tryz.underlying5 _ _ 9 Tryz.underlying9
    ·refine run_convert_bytes_arg wr 99 5 Tryz.underlying99 Tryz.underlying5 gg 0 n cap (leB X n) (leB_len X n) ?_ 9 Tryz.underlying9
     intro j hj
     have:=hown.cells (g:=gg) rfl j (.int .u8 ((leB X n).getD j 0)) (by rw [List.getElem?_map,List.getD_eq_getElem?_getD,List.getElem?_eq_getElem (by rw [leB_len];exact hj)];rfl)
     have hadd:(⟨gg,0,none⟩:Addr).add j=⟨gg,0+j,none⟩:=by unfold Addr.add;split <;> simp_all
     rw [hadd] at this
     exact this
   have hconv':=hconv wr
   clear hconv
   go_wp2_with fail
   go_ret
   exact ⟨rfl,hbel⟩
@[go_sem] theorem leS_size (X:Int) (n:Nat):(leS X n).size=n:=by rw [leS,strOfNums_size,leB_len]
theorem U32_any (n:Int) (h0:0<=n) (h1:n<=4294967295):Pure Tryz.prog 175 #[.int .i64 n] (.string (leS n 4)):=by
  intro w
  have c:Pure Tryz.prog 220 #[.int .u64 n,.int .i64 4] (.string (leS n 4)):=laid_any n 4 (by omega)
  go_enter Tryz.func175,Tryz.ntmps175
  go_wp2_with (go_at_call 220;with_reducible refine (c.at _).mono ?_;rintro e w' ⟨rfl,g,rfl⟩)
  go_ret
  exact Ret.mk rfl grown
theorem leS_list (X:Int) (n:Nat):(leS X n).data.toList=(leB X n).map λ b=>UInt8.ofNat b.toNat:=rfl
theorem byteN_bd (X:Int) (j:Nat):0<=byteN X j/\byteN X j < 256:=by
 unfold byteN
 exact ⟨Int.emod_nonneg _ (by omega),Int.emod_lt_of_pos _ (by omega)⟩
end Go.Proofs.YtlfjdjndhcmliaaGreatDoor
namespace Go.Proofs.YtlfjdjndhcmliaaGreatDoor
open Go.RowKit Go.ChangeShapes Go.WideShapes Go.Joins
structure Slc where
 ad:Option Addr
 blk:Nat
 off:Nat
 len:Nat
 cap:Nat
 x:Nat->Int
 y:Nat->Int
class GM (s:Slc) (W:World):Prop where
 addr:∀ k,k < s.len->s.ad=some ⟨s.blk,s.off,none⟩
 old:∀ k,k < s.len->s.blk < W.heap.size
 c0:∀ k,k < s.len->W.cell? ⟨s.blk,s.off+k*2,none⟩=some (.int .i64 (s.x k))
 c1:∀ k,k < s.len->W.cell? ⟨s.blk,s.off+k*2+1,none⟩=some (.int .i64 (s.y k))
instance gmAlloc (s:Slc) (W:World) (o:Obj) [k:GM s W]:GM s (W.alloc o) where
 addr:=k.addr
 old:=λ j hj=>by have:=k.old j hj;rw [World.size_alloc];omega
 c0:=λ j hj=>by haveI:Old s.blk W:=⟨k.old j hj⟩;rw [cell_past];exact k.c0 j hj
 c1:=λ j hj=>by haveI:Old s.blk W:=⟨k.old j hj⟩;rw [cell_past];exact k.c1 j hj
instance gmGr (s:Slc) (W:World) (g:Gr) [k:GM s W]:GM s (gr W g) where
 addr:=k.addr
 old:=λ j hj=>by have:=k.old j hj;rw [gr_size];omega
 c0:=λ j hj=>by haveI:Old s.blk W:=⟨k.old j hj⟩;rw [cell_gr];exact k.c0 j hj
 c1:=λ j hj=>by haveI:Old s.blk W:=⟨k.old j hj⟩;rw [cell_gr];exact k.c1 j hj
theorem GM.isOld {s:Slc} {W:World} {k:Nat} (m:GM s W) (h:k < s.len):Old s.blk W:=⟨m.old k h⟩
theorem ix_grp {s:Slc} {W:World} {k:Nat} (m:GM s W) (hk:k < s.len) (W':World) :
  (Instr.indexAt 22 (.slice s.ad s.len s.cap) (.int .i64 (k:Int))).run Tryz.prog W'=.ok (.pointer (some ⟨s.blk,s.off+k*2,none⟩)) W':=by
 rw [m.addr k hk]
 simp [go_sem,hk]
theorem Calls.at {P:Program} {f:FuncId} {args:Array Value} {v:Value} {W:World} (h:Calls P f args W (Ret v W)):Calls P f args W λ e w'=>e=.returned v/\∃ g:Gr,w'=gr W g :=
 h.mono λ _ _ ⟨he,hb⟩=>⟨he,gr_of_below hb⟩
def oneG (k w:Int):Bool:=decide (k=0/\1<=w/\w<=8\/k=1/\3<=w/\w<=8)
set_option maxRecDepth 512 in
theorem one_any (k v:Int):Pure Tryz.prog 41 #[.agg #[.int .i64 k,.int .i64 v]] (.bool (oneG k v)):=by
 intro w
 by_cases h0:k=0
 ·subst h0
  by_cases h1:1<=v <;> by_cases h8:v<=8
  all_goals try (exfalso;omega)
  all_goals
   go_enter Tryz.func41,Tryz.ntmps41
   go_wp2
   go_ret
   exact Ret.mk (congrArg Value.bool (by unfold oneG;simp;omega)) (bel1' _ _)
 ·have h0':(k == 0)=false:=by simp [h0]
  by_cases h2:k=1
  ·subst h2
   by_cases h1:3<=v <;> by_cases h8:v<=8
   all_goals try (exfalso;omega)
   all_goals
    go_enter Tryz.func41,Tryz.ntmps41
    go_wp2
    go_ret
    exact Ret.mk (congrArg Value.bool (by unfold oneG;simp;omega)) (bel1' _ _)
  ·have h2':(k == 1)=false:=by simp [h2]
   have e:=Lib.hid (show oneG k v=false by unfold oneG;simp;omega)
   clear h0 h2
   go_enter Tryz.func41,Tryz.ntmps41
   go_wp2
   go_ret
   exact Ret.mk (congrArg Value.bool (by rw [e.out])) (bel1' _ _)
set_option maxRecDepth 512 in
theorem notOne_any (k v:Int):Pure Tryz.prog 40 #[.agg #[.int .i64 k,.int .i64 v]] (.bool (!oneG k v)):=by
 intro w
 go_enter Tryz.func40,Tryz.ntmps40
 go_wp2_with (go_at_call 41;with_reducible refine ((one_any _ _).at _).mono ?_;rintro e w' ⟨rfl,g,rfl⟩)
 go_ret
 exact Ret.mk rfl (bel1 _ _ _)
def badAt (s:Slc):Nat->Int
 | 0=>-1
 | n+1=>if 0<=badAt s n then badAt s n else if oneG (s.x n) (s.y n) then -1 else n
def allOne (s:Slc):Prop:=∀ k,k < s.len->oneG (s.x k) (s.y k)=true
theorem badAt_neg {s:Slc} {n:Nat}:badAt s n < 0 ↔ ∀ k,k < n->oneG (s.x k) (s.y k)=true:=by
 induction n with
 | zero=>simp [badAt]
 | succ n ih =>
  simp only [badAt]
  by_cases h:0<=badAt s n
  ·rw [if_pos h]
   constructor
   ·intro h2;omega
   ·intro h2;exact ih.2 (λ k hk=>h2 k (by omega))
  ·rw [if_neg h]
   have hb:=ih.1 (by omega)
   by_cases ho:oneG (s.x n) (s.y n)=true
   ·rw [if_pos ho]
    refine ⟨λ _ k hk=>?_,λ _=>by omega⟩
    by_cases e:k=n
    ·subst e;exact ho
    ·exact hb k (by omega)
   ·rw [if_neg ho]
    refine ⟨λ h3=>by omega,λ h3=>absurd (h3 n (by omega)) ho⟩
theorem badAt_first {s:Slc} {k n:Nat} (h:∀ j,j < k->oneG (s.x j) (s.y j)=true) (hk:oneG (s.x k) (s.y k)=false) (hn:k < n):badAt s n=k:=by
 induction n with
 | zero=>omega
 | succ n ih =>
  simp only [badAt]
  by_cases e:k=n
  ·subst e
   have:=badAt_neg.2 h
   rw [if_neg (by omega),if_neg (by simp [hk])]
  ·have:=ih (by omega)
   rw [this,if_pos (by omega)]
theorem badAt_none {s:Slc} {n:Nat} (h:∀ j,j < n->oneG (s.x j) (s.y j)=true):badAt s n=-1:=by
 induction n with
 | zero=>rfl
 | succ n ih =>
  simp only [badAt]
  rw [ih (λ j hj=>h j (by omega))]
  simp [h n (by omega)]
set_option maxRecDepth 512 in
theorem index_any (s:Slc) (w:World) [m:GM s w] (hs:s.len<=9223372036854775807) :
  Calls Tryz.prog 87 #[.slice s.ad s.len s.cap,.func (.func 40) #[] #[]] w (Ret (.int .i64 (badAt s s.len)) w):=by
 go_enter Tryz.func87,Tryz.ntmps87
 go_wp2_with fail
 go_loopw [8] (λ i wr=>∃ k:Nat,k<=s.len/\i=.int .i64 k/\(∀ j,j < k->oneG (s.x j) (s.y j)=true)/\∃ g':Gr,wr=gr w g')
  (λ i _=>s.len - (intOf i).toNat)
 case atStart=>exact ⟨0,Nat.zero_le _,rfl,λ j hj=>by omega,ex_gr _⟩
 case round =>
  obtain ⟨k,hk,rfl,hall,g',rfl⟩:=hrel
  have Hall:=Lib.hid hall
  clear hall
  by_cases hlt:k < s.len
  ·have hcx:=m.c0 k hlt
   have hcy:=m.c1 k hlt
   have hix:=ix_grp m hlt
   haveI hbo:=m.isOld hlt
   have c:=notOne_any (s.x k) (s.y k)
   cases ho:oneG (s.x k) (s.y k)
   ·have e:=Lib.hid (badAt_first Hall.out ho hlt)
    rw [ho] at c
    clear ho
    go_wp2_with (go_at_call 40;with_reducible refine (c.at _).mono ?_;rintro e w' ⟨rfl,g,rfl⟩)
    go_ret
    exact Ret.mk (by rw [e.out];rfl) grown
   ·have Ho:=Lib.hid ho
    rw [ho] at c
    clear ho
    go_wp2_with (go_at_call 40;with_reducible refine (c.at _).mono ?_;rintro e w' ⟨rfl,g,rfl⟩)
    go_roundw
    case rel=>exact ⟨k+1,by omega,by go_num,λ j hj=>(by
     by_cases e:j=k
     ·subst e;exact Ho.out
     ·exact Hall.out j (by omega)),_,rfl⟩
    case measure=>simp [intOf];omega
  ·obtain rfl:s.len=k:=by omega
   have e:=Lib.hid (badAt_none Hall.out)
   go_wp2_with fail
   go_ret
   exact Ret.mk (by rw [e.out];rfl) grown
set_option maxRecDepth 512 in
theorem contains_any (s:Slc) (w:World) [m:GM s w] (hs:s.len<=9223372036854775807) :
  Calls Tryz.prog 39 #[.slice s.ad s.len s.cap,.func (.func 40) #[] #[]] w (Ret (.bool (decide (0<=badAt s s.len))) w):=by
 go_enter Tryz.func39,Tryz.ntmps39
 go_wp2_with (go_at_call 87;with_reducible refine (Calls.at (index_any s _ hs)).mono ?_;rintro e w' ⟨rfl,g,rfl⟩)
 go_ret
 exact Ret.mk rfl grown
def goodG (s:Slc) (secs:Int):Prop:=1<=s.len/\s.len<=4/\24<=secs/\secs<=4096/\allOne s
set_option maxRecDepth 512 in
theorem right_yes {s:Slc} {secs:Int} (h:goodG s secs) (w:World) [m:GM s w] :
  Calls Tryz.prog 13 #[.agg #[.slice s.ad s.len s.cap,.int .i64 secs]] w (Ret (.bool true) w):=by
 obtain ⟨h1,h2,h3,h4,h5⟩:=h
 have hb:decide (0<=badAt s s.len)=false:=by simp;exact badAt_neg.2 h5
 have hc:=λ (w:World) [GM s w]=>contains_any s w (by omega)
 rw [hb] at hc
 have Hc:=Lib.hid hc
 clear hc hb h5
 go_enter Tryz.func13,Tryz.ntmps13
 go_wp2_with (go_at_call 39;with_reducible refine (Calls.at (Hc.out _)).mono ?_;rintro e w' ⟨rfl,g,rfl⟩)
 go_ret
 exact Ret.mk rfl grown
set_option maxRecDepth 512 in
theorem right_no {s:Slc} {secs:Int} (h:¬ goodG s secs) (hs:s.len<=9223372036854775807) (w:World) [m:GM s w] :
  Calls Tryz.prog 13 #[.agg #[.slice s.ad s.len s.cap,.int .i64 secs]] w (Ret (.bool false) w):=by
 by_cases h1:1<=s.len
 ·by_cases h2:s.len<=4
  ·by_cases h3:24<=secs
   ·by_cases h4:secs<=4096
    ·have hb:decide (0<=badAt s s.len)=true:=by
      simp only [decide_eq_true_eq]
      refine Int.not_lt.1 λ hn=>h ⟨h1,h2,h3,h4,badAt_neg.1 hn⟩
     have hc:=λ (w:World) [GM s w]=>contains_any s w (by omega)
     rw [hb] at hc
     have Hc:=Lib.hid hc
     clear hc hb h
     go_enter Tryz.func13,Tryz.ntmps13
     go_wp2_with (go_at_call 39;with_reducible refine (Calls.at (Hc.out _)).mono ?_;rintro e w' ⟨rfl,g,rfl⟩)
     go_ret
     exact Ret.mk rfl grown
    ·clear h
     go_enter Tryz.func13,Tryz.ntmps13
     go_wp2_with fail
     go_ret
     exact Ret.mk rfl grown
   ·clear h
    go_enter Tryz.func13,Tryz.ntmps13
    go_wp2_with fail
    go_ret
    exact Ret.mk rfl grown
  ·clear h
   go_enter Tryz.func13,Tryz.ntmps13
   go_wp2_with fail
   go_ret
   exact Ret.mk rfl grown
 ·clear h
  go_enter Tryz.func13,Tryz.ntmps13
  go_wp2_with fail
  go_ret
  exact Ret.mk rfl grown
set_option maxRecDepth 512 in
theorem has_grp {s:Slc} {secs:Int} {k:Nat} (h:goodG s secs) (hk:k < s.len) (w:World) [m:GM s w] :
  Calls Tryz.prog 183 #[.agg #[.slice s.ad s.len s.cap,.int .i64 secs],.int .i64 (k:Int)] w (Ret (.bool true) w):=by
 have HR:=Lib.hid (λ (w:World) [GM s w]=>right_yes h w)
 have hl:=h.2.1
 clear h
 go_enter Tryz.func183,Tryz.ntmps183
 go_wp2_with (go_at_call 13;with_reducible refine (Calls.at (HR.out _)).mono ?_;rintro e w' ⟨rfl,g,rfl⟩)
 go_ret
 exact Ret.mk rfl grown
set_option maxRecDepth 512 in
theorem hasnt_grp {s:Slc} {secs n:Int} (h:¬ (goodG s secs/\0<=n/\n < s.len)) (hs:s.len<=9223372036854775807) (w:World) [m:GM s w] :
  Calls Tryz.prog 183 #[.agg #[.slice s.ad s.len s.cap,.int .i64 secs],.int .i64 n] w (Ret (.bool false) w):=by
 by_cases hg:goodG s secs
 ·have HR:=Lib.hid (λ (w:World) [GM s w]=>right_yes hg w)
  have hl:=hg.2.1
  by_cases h0:0<=n
  ·have h1:¬ n < s.len:=λ h1=>h ⟨hg,h0,h1⟩
   clear h hg
   go_enter Tryz.func183,Tryz.ntmps183
   go_wp2_with (go_at_call 13;with_reducible refine (Calls.at (HR.out _)).mono ?_;rintro e w' ⟨rfl,g,rfl⟩)
   go_ret
   exact Ret.mk (congrArg Value.bool (by simp;try omega)) grown
  ·clear h hg
   go_enter Tryz.func183,Tryz.ntmps183
   go_wp2_with (go_at_call 13;with_reducible refine (Calls.at (HR.out _)).mono ?_;rintro e w' ⟨rfl,g,rfl⟩)
   go_ret
   exact Ret.mk rfl grown
 ·have HR:=Lib.hid (λ (w:World) [GM s w]=>right_no hg hs w)
  clear h hg
  go_enter Tryz.func183,Tryz.ntmps183
  go_wp2_with (go_at_call 13;with_reducible refine (Calls.at (HR.out _)).mono ?_;rintro e w' ⟨rfl,g,rfl⟩)
  go_ret
  exact Ret.mk rfl grown
def sumW (s:Slc):Nat->Int
 | 0=>0
 | k+1=>sumW s k+s.y k
theorem wide_of {s:Slc} {secs:Int} (h:goodG s secs) {k:Nat} (hk:k < s.len):1<=s.y k/\s.y k<=8/\(s.x k=0\/s.x k=1/\3<=s.y k):=by
 have:=h.2.2.2.2 k hk
 unfold oneG at this
 simp only [decide_eq_true_eq] at this
 omega
theorem sumW_le {s:Slc} {secs:Int} (h:goodG s secs):∀ k,k<=s.len->(k:Int)<=sumW s k/\sumW s k<=8*k
 | 0,_=>by simp [sumW]
 | k+1,hk=>by
  have ih:=sumW_le h k (by omega)
  have:=wide_of h (k:=k) (by omega)
  simp only [sumW]
  omega
set_option maxRecDepth 512 in
theorem devs_yes {s:Slc} {secs:Int} (h:goodG s secs) (w:World) [m:GM s w] :
  Calls Tryz.prog 42 #[.agg #[.slice s.ad s.len s.cap,.int .i64 secs]] w (Ret (.int .i64 (sumW s s.len)) w):=by
 have HR:=Lib.hid (λ (w:World) [GM s w]=>right_yes h w)
 have hl:=h.2.1
 have HG:=Lib.hid h
 clear h
 go_enter Tryz.func42,Tryz.ntmps42
 go_wp2_with (go_at_call 13;with_reducible refine (Calls.at (HR.out _)).mono ?_;rintro e w' ⟨rfl,g,rfl⟩)
 go_loopw [3,12] (λ n i wr=>∃ k:Nat,k<=s.len/\i=.int .i64 k/\n=.int .i64 (sumW s k)/\∃ g':Gr,wr=gr (w.alloc (.cells #[.slice s.ad s.len s.cap,.int .i64 secs] 24)) g')
  (λ _ i _=>s.len - (intOf i).toNat)
 case atStart=>exact ⟨0,Nat.zero_le _,rfl,rfl,_,rfl⟩
 case round =>
  obtain ⟨k,hk,rfl,rfl,g',rfl⟩:=hrel
  have hb:=sumW_le HG.out k hk
  by_cases hlt:k < s.len
  ·have hcx:=m.c0 k hlt
   have hcy:=m.c1 k hlt
   have hix:=ix_grp m hlt
   haveI hbo:=m.isOld hlt
   have hw:=wide_of HG.out hlt
   go_wp2_with fail
   go_roundw
   case rel=>exact ⟨k+1,by omega,by go_num,rfl,ex_gr_alloc' _ _ _⟩
   case measure=>simp [intOf];omega
  ·obtain rfl:s.len=k:=by omega
   go_wp2_with fail
   go_ret
   exact Ret.mk rfl grown
set_option maxRecDepth 512 in
theorem first_yes {s:Slc} {secs:Int} {n:Nat} (h:goodG s secs) (hn:n < s.len) (w:World) [m:GM s w] :
  Calls Tryz.prog 256 #[.agg #[.slice s.ad s.len s.cap,.int .i64 secs],.int .i64 (n:Int)] w (Ret (.int .i64 (sumW s n)) w):=by
 have HH:=Lib.hid (λ (w:World) [GM s w]=>has_grp h hn w)
 have hl:=h.2.1
 have HG:=Lib.hid h
 clear h
 go_enter Tryz.func256,Tryz.ntmps256
 go_wp2_with (go_at_call 183;with_reducible refine (Calls.at (HH.out _)).mono ?_;rintro e w' ⟨rfl,g,rfl⟩)
 go_loopw [5,12] (λ v i wr=>∃ k:Nat,k<=n/\i=.int .i64 k/\v=.int .i64 (sumW s k)/\∃ g':Gr,wr=gr (w.alloc (.cells #[.slice s.ad s.len s.cap,.int .i64 secs] 24)) g')
  (λ _ i _=>n - (intOf i).toNat)
 case atStart=>exact ⟨0,Nat.zero_le _,rfl,rfl,_,rfl⟩
 case round =>
  obtain ⟨k,hk,rfl,rfl,g',rfl⟩:=hrel
  have hb:=sumW_le HG.out k (by omega)
  by_cases hlt:k < n
  ·have hlt':k < s.len:=by omega
   have hcx:=m.c0 k hlt'
   have hcy:=m.c1 k hlt'
   have hix:=ix_grp m hlt'
   haveI hbo:=m.isOld hlt'
   have hw:=wide_of HG.out hlt'
   go_wp2_with fail
   go_roundw
   case rel=>exact ⟨k+1,by omega,by go_num,rfl,_,rfl⟩
   case measure=>simp [intOf];omega
  ·obtain rfl:n=k:=by omega
   go_wp2_with fail
   go_ret
   exact Ret.mk rfl grown
set_option maxRecDepth 512 in
theorem first_no {s:Slc} {secs n:Int} (h:¬ (goodG s secs/\0<=n/\n < s.len)) (hs:s.len<=9223372036854775807) (w:World) [m:GM s w] :
  Calls Tryz.prog 256 #[.agg #[.slice s.ad s.len s.cap,.int .i64 secs],.int .i64 n] w (Ret (.int .i64 0) w):=by
 have HH:=Lib.hid (λ (w:World) [GM s w]=>hasnt_grp h hs w)
 clear h
 go_enter Tryz.func256,Tryz.ntmps256
 go_wp2_with (go_at_call 183;with_reducible refine (Calls.at (HH.out _)).mono ?_;rintro e w' ⟨rfl,g,rfl⟩)
 go_ret
 exact Ret.mk rfl grown
end Go.Proofs.YtlfjdjndhcmliaaGreatDoor
namespace Go.Proofs.YtlfjdjndhcmliaaGreatDoor
open Go.RowKit Go.Sort
structure Kept (B:Nat) (W W':World):Prop where
 size:W.heap.size<=W'.heap.size
 same:∀ k,B<=k->k < W.heap.size->W'.heap[k]?=W.heap[k]?
theorem Kept.trans {B:Nat} {X Y Z:World} (h:Kept B X Y) (k:Kept B Y Z):Kept B X Z:=⟨Nat.le_trans h.size k.size,λ i hB hi=>(k.same i hB (Nat.lt_of_lt_of_le hi h.size)).trans (h.same i hB hi)⟩
theorem Kept.mono {B B':Nat} {W W':World} (h:Kept B W W') (hB:B<=B'):Kept B' W W':=⟨h.size,λ k hk=>h.same k (Nat.le_trans hB hk)⟩
theorem Kept.of_below {B:Nat} {W W':World} (h:Below W.heap.size W W'):Kept B W W':=⟨h.size,λ k _ hk=>h.block k hk⟩
theorem Kept.gr (B:Nat) (W:World) (g:Gr):Kept B W (gr W g):=.of_below (below_gr W g)
def From {β:Type} (B:Nat) (I:β->World->Prop):Prop:=∀ s W W',I s W->Below B W W'->I s W'
def SeqOwn {α:Type} (P:Program) (g:Nat) (lb:Array Value) (encs:α->Array Value) (S:List α->Prop) (w:World):Prop :=
 ∀ (l:Nat) (J Jx:List α->World->Prop) (W:World),Below w.heap.size w W->From W.heap.size J->From W.heap.size Jx ->
  (∀ m pre x W1,J pre W1->(∃ xs,S xs/\pre++[x] <+: xs)->YieldAt Fence.wide m P l (encs x) W1 λ e W' =>
   (e=.returned (.bool true)/\J (pre++[x]) W'/\Kept W.heap.size W1 W')\/(e=.returned (.bool false)/\Jx (pre++[x]) W')) ->
  J [] W ->
  Calls P g (#[.func (.yield l) #[] #[]]++lb) W λ e W'=>(∃ v,e=.returned v)/\((∃ xs,S xs/\J xs W')\/(∃ pre xs,S xs/\pre <+: xs/\Jx pre W'))
def ownPostC {α:Type} (B:Nat) (I:List α->World->Prop) (Ix:Code->List α->World->Prop) (xs:List α) (W:World):Exit->Act->World->Prop
 | .normal,_,W'=>Kept B W W'/\I xs W'
 | .ret,_,W'=>Kept B W W'/\Ix .ret xs W'
 | .exit id,_,W'=>Kept B W W'/\Ix (.exit id) xs W'
 | .goto t,_,W'=>Kept B W W'/\Ix (.goto t) xs W'
 | .panic _,_,_=>False
 | .outgrown,_,_=>False
theorem below_put {B:Nat} (W:World) (l:Nat) (o o':Obj) (hl:B<=l) (_:W.heap[l]?=some o) (hB:B<=W.heap.size):Below B W (W.putObj l o') :=
 (Below.refl B W).grown (grownBy_putObj' W l o') hB (λ k e=>by cases e;exact hl)
theorem wpIn_range_own {P:Program} {n:Nat} {α:Type} {g:Operand} {ps:Array Tmp} {assign body:Code} {Q:Exit->Act->World->Prop} {a:Act} {w:World}
  {gf:Nat} {lb:Array Value} (hg:a.eval g=.func (.func gf) #[] lb) (eg:∀ args w,(callFunc gf args).run P w=.ok (.enter gf args) w)
  {encs:α->Array Value} {S:List α->Prop} {w0:World} (hseq:SeqOwn P gf lb encs S w0) (hb0:Below w0.heap.size w0 w) (hps:∀ x,(encs x).size=ps.size)
  (I:List α->World->Prop) (Ix:Code->List α->World->Prop) (hI:From w.heap.size I) (hIx:∀ c,From w.heap.size (Ix c)) (h0:I [] w) (a₁:α->Act)
  (hassign:∀ (l m:Nat) (x:α) (W:World) (K:Act->World->Prop),K (a₁ x) W ->
   assign.wpIn (Fence.wide.inRound l) m P (Exit.then K (λ _ _ _=>False)) { tmps:=(ps.zip (encs x)).foldl (λ t (p,v)=>t.setIfInBounds p v) a.tmps,defers:=[] } W)
  (hbody:∀ (l m:Nat) (pre:List α) (x:α) (W:World),I pre W->(∃ xs,S xs/\pre++[x] <+: xs)->body.wpIn (Fence.wide.inRound l) m P (ownPostC w.heap.size I Ix (pre++[x]) W) (a₁ x) W)
  (hdone:∀ (D:Nat) (xs:List α) (W:World),w.heap.size<=D->S xs->I xs W->W.heap[D]?=some (.deferred (some []))->Q .normal { a with defers:={ target:=.collected D,args:=#[] }::a.defers } W)
  (hstop:∀ (D:Nat) (c:Code) (pre:List α) (W:World),w.heap.size<=D->(∃ xs,S xs/\pre <+: xs)->Ix c pre W->W.heap[D]?=some (.deferred (some []))->c.wpIn Fence.wide n P Q { a with defers:={ target:=.collected D,args:=#[] }::a.defers } W) :
  (Code.rangeFunc g ps assign body).wpIn Fence.wide n P Q a w:=by
 refine wpIn_rangeFunc ?_
 intro fn hfn
 rw [show Fence.wide.round=none from rfl]
 obtain ⟨rec,hrec⟩:∃ rec:LoopState->Option Code->Loop,rec=λ st pe=>{ state:=st,pending:=pe,fn,tmps:=a.tmps,params:=ps,assign,body,defers:=w.heap.size }:=⟨_,rfl⟩
 obtain ⟨W1,hW1⟩:∃ W1,(w.alloc (.deferred (some []))).alloc (.loop (rec .ready none))=W1:=⟨_,rfl⟩
 have hs1:W1.heap.size=w.heap.size+2:=by rw [<-hW1];simp
 have hL1:W1.heap[w.heap.size+1]?=some (.loop (rec .ready none)):=by
  rw [<-hW1];have:=World.alloc_heap_new (w.alloc (.deferred (some []))) (.loop (rec .ready none));rwa [World.size_alloc] at this
 have hK1:W1.heap[w.heap.size]?=some (.deferred (some [])):=by
  rw [<-hW1];exact (Below.heap_alloc _ _ _ (by simp)).trans (World.alloc_heap_new w _)
 have hbw:Below w.heap.size w W1:=by rw [<-hW1];exact ((Below.refl _ w).alloc (Nat.le_refl _) _).alloc (by simp) _
 have hI1:I [] W1:=hI _ _ _ h0 hbw
 have hb1:Below w0.heap.size w0 W1:=hb0.trans (hbw.mono hb0.size)
 refine ⟨w.heap.size+1,[{ target:=.collected w.heap.size,args:=#[] }],W1,{ target:=.fn (.func gf) lb,args:=#[.func (.yield (w.heap.size+1)) #[] #[]] },W1,gf,
  #[.func (.yield (w.heap.size+1)) #[] #[]]++lb,W1,?_,?_,?_,?_,λ h=>(by simp [Fence.wide] at h),?_⟩
 ·rw [<-hW1,hrec];exact run_enterLoop_outer _ _ _ _ _
 ·simp only [resolve,hg]
  simp [go_sem]
 ·intro f' hf';trivial
 ·simp [invoke,go_sem,eg]
 ·refine callsIn_wide.2 ?_
  refine (hseq (w.heap.size+1)
   (λ pre W=>I pre W/\W.heap[w.heap.size+1]?=some (.loop (rec .ready none))/\W.heap[w.heap.size]?=some (.deferred (some [])))
   (λ pre W=>∃ c,Ix c pre W/\W.heap[w.heap.size+1]?=some (.loop (rec .done (some c)))/\W.heap[w.heap.size]?=some (.deferred (some [])))
   W1 hb1
   (λ s A B hs hab=>⟨hI s A B hs.1 (hab.mono (by omega)),(hab.block _ (by omega)).trans hs.2.1,(hab.block _ (by omega)).trans hs.2.2⟩)
   (λ s A B hs hab=>by
    obtain ⟨c,hc,hl,hk⟩:=hs
    exact ⟨c,hIx c s A B hc (hab.mono (by omega)),(hab.block _ (by omega)).trans hl,(hab.block _ (by omega)).trans hk⟩)
   ?_ ⟨hI1,hL1,hK1⟩).mono ?_
  ·-- one round
   rintro m pre x W ⟨hi,hl,hk⟩ hpre
   have hlt:w.heap.size+1 < W.heap.size:=(Array.getElem?_eq_some_iff.1 hl).1
   have hy:=run_yield (P:=P) (args:=encs x) hl (by rw [hrec];exact hps x)
   rw [hrec] at hy
   refine ⟨fn,_,assign,body,hy,roundIn_of_wpIn hfn (hassign _ _ x W _ ⟨_,run_beginRound hl (by rw [hrec]),?_⟩)⟩
   have hl2:(W.putObj (w.heap.size+1) (.loop { rec .ready none with state:=.busy })).heap[w.heap.size+1]?=some (.loop { rec .ready none with state:=.busy }):=World.putObj_heap_same hlt
   have hk2:(W.putObj (w.heap.size+1) (.loop { rec .ready none with state:=.busy })).heap[w.heap.size]?=some (.deferred (some [])):=(World.putObj_heap_other (by omega)).trans hk
   have hz2:(W.putObj (w.heap.size+1) (.loop { rec .ready none with state:=.busy })).heap.size=W.heap.size:=by simp [World.putObj]
   have hp2:∀ (V:World) (o:Obj),Kept W1.heap.size V (V.putObj (w.heap.size+1) o):=λ V o=>⟨by simp [World.putObj],λ k hk _=>World.putObj_heap_other (by omega)⟩
   have hi2:=hI _ _ _ hi (below_put W (w.heap.size+1) _ (.loop { rec .ready none with state:=.busy }) (by omega) hl (by omega))
   refine wpIn_mono (hbody _ _ pre x _ hi2 hpre) ?_
   have fin:∀ (jump:Option Code) (W3:World),Kept w.heap.size (W.putObj (w.heap.size+1) (.loop { rec .ready none with state:=.busy })) W3 ->
     (Instr.endRound (w.heap.size+1) jump).run P W3=.ok (.bool jump.isNone) (W3.putObj (w.heap.size+1) (.loop (rec (if jump.isNone then .ready else .done) jump))) /\
     W3.heap[w.heap.size+1]?=some (.loop { rec .ready none with state:=.busy }) /\
     (W3.putObj (w.heap.size+1) (.loop (rec (if jump.isNone then .ready else .done) jump))).heap[w.heap.size+1]?=some (.loop (rec (if jump.isNone then .ready else .done) jump)) /\
     (W3.putObj (w.heap.size+1) (.loop (rec (if jump.isNone then .ready else .done) jump))).heap[w.heap.size]?=some (.deferred (some [])) /\
     Below w.heap.size W3 (W3.putObj (w.heap.size+1) (.loop (rec (if jump.isNone then .ready else .done) jump))):=λ jump W3 hk3=>by
    have hl3:=(hk3.same _ (by omega) (by omega)).trans hl2
    have hkk:=(hk3.same _ (Nat.le_refl _) (by omega)).trans hk2
    have hsz:=hk3.size
    have:=run_endRound (P:=P) jump hl3
    rw [hrec] at this ⊢
    exact ⟨this,by rw [hrec] at hl3;exact hl3,World.putObj_heap_same (Array.getElem?_eq_some_iff.1 hl3).1,(World.putObj_heap_other (by omega)).trans hkk,below_put _ _ _ _ (by omega) hl3 (by omega)⟩
   rintro e a3 W3 hp
   cases e with
   | normal =>
    obtain ⟨hk3,hi3⟩:=hp
    obtain ⟨hr,hl3,hl4,hk4,hb4⟩:=fin none W3 hk3
    exact ⟨_,_,hr,.inl ⟨rfl,⟨hI _ _ _ hi3 hb4,hl4,hk4⟩,((hp2 W _).trans (hk3.mono (by omega))).trans (hp2 _ _)⟩⟩
   | ret =>
    obtain ⟨hk3,hi3⟩:=hp
    obtain ⟨hr,hl3,hl4,hk4,hb4⟩:=fin (some .ret) W3 hk3
    exact ⟨_,_,hr,.inr ⟨rfl,.ret,hIx _ _ _ _ hi3 hb4,hl4,hk4⟩⟩
   | exit id =>
    obtain ⟨hk3,hi3⟩:=hp
    obtain ⟨hr,hl3,hl4,hk4,hb4⟩:=fin (some (.exit id)) W3 hk3
    exact ⟨_,_,hr,.inr ⟨rfl,.exit id,hIx _ _ _ _ hi3 hb4,hl4,hk4⟩⟩
   | goto t =>
    obtain ⟨hk3,hi3⟩:=hp
    obtain ⟨hr,hl3,hl4,hk4,hb4⟩:=fin (some (.goto t)) W3 hk3
    exact ⟨_,_,hr,.inr ⟨rfl,.goto t,hIx _ _ _ _ hi3 hb4,hl4,hk4⟩⟩
   | panic ch=>exact hp.elim
   | outgrown=>exact hp.elim
  ·-- behind the iterator
   rintro e W2 ⟨⟨v,rfl⟩,(⟨xs,hS,hi,hl,hk⟩ | ⟨pre,xs,hS,hpre,c,hi,hl,hk⟩)⟩
   ·have hlt:w.heap.size+1 < W2.heap.size:=(Array.getElem?_eq_some_iff.1 hl).1
    exact ⟨none,_,by have:=run_endLoop (P:=P) hl (by rw [hrec];simp);rw [hrec] at this;exact this,hdone _ xs _ (Nat.le_refl _) hS (hI _ _ _ hi (below_put _ _ _ _ (by omega) hl (by omega))) ((World.putObj_heap_other (by omega)).trans hk)⟩
   ·have hlt:w.heap.size+1 < W2.heap.size:=(Array.getElem?_eq_some_iff.1 hl).1
    exact ⟨some c,_,by have:=run_endLoop (P:=P) hl (by rw [hrec];simp);rw [hrec] at this;exact this,hstop _ c pre _ (Nat.le_refl _) ⟨xs,hS,hpre⟩ (hIx _ _ _ _ hi (below_put _ _ _ _ (by omega) hl (by omega))) ((World.putObj_heap_other (by omega)).trans hk)⟩
theorem from_gr {β:Type} {B:Nat} (f:β->World) (hf:∀ s,(f s).heap.size=B):From B (λ s W=>∃ g:Gr,W=gr (f s) g):=by
 rintro s W W' ⟨g,rfl⟩ hb
 have h:=below_gr (f s) g
 rw [hf s] at h
 have h':=h.trans hb
 rw [<-hf s] at h'
 exact gr_of_below h'
theorem from_pure {β:Type} {B:Nat} (p:β->Prop):From B (λ s (_:World)=>p s):=λ _ _ _ hs _=>hs
end Go.Proofs.YtlfjdjndhcmliaaGreatDoor
namespace Go.Proofs
open Go.Shelf
def Tryz.lays169_ren:Go.Shelf.Ren:=⟨λ | 169=>79 | n=>n,λ | 70=>158 | 9=>9 | 0=>0 | 72=>160 | 37=>99 | 127=>237 | 3=>3 | 5=>5 | n=>n,λ | n=>n⟩
theorem Tryz.Builder_Extra_169:Builder.Extra Tryz.prog Tryz.lays169_ren:={
 sizeBuilder:=by kernel_rfl
 liesBuilder:=by kernel_rfl
 t5:=Tryz.underlying5
 a5:=Tryz.isAgg5
 z5:=Tryz.sizeOf5
 v5:=Tryz.zeroValue5
 infoByte:=by kernel_rfl
 cellsByte:=by kernel_rfl
 sizeByte:=by kernel_rfl
 neB5:=by decide }
def Tryz.lays156_ren:Go.Shelf.Ren:=⟨λ | 156=>356 | 165=>197 | 166=>78 | 169=>79 | 240=>139 | 241=>237 | 276=>199 | 277=>260 | n=>n,λ | 31=>101 | 9=>9 | 3=>3 | 4=>4 | 0=>0 | 20=>20 | 72=>160 | 76=>164 | 70=>158 | 37=>99 | 75=>163 | 127=>237 | 164=>297 | 5=>5 | 80=>166 | n=>n,λ | n=>n⟩
theorem Tryz.lays156:Go.Proofs.Lays.n156 Tryz.prog Tryz.lays156_ren:={
 mixed:=by kernel_rfl
 f156:=Tryz.func356.trans (congrArg some (by kernel_rfl))
 f165:=Tryz.func197.trans (congrArg some (by kernel_rfl))
 f166:=Tryz.func78.trans (congrArg some (by kernel_rfl))
 f169:=Tryz.func79.trans (congrArg some (by kernel_rfl))
 f240:=Tryz.func139.trans (congrArg some (by kernel_rfl))
 f241:=Tryz.func237.trans (congrArg some (by kernel_rfl))
 f276:=Tryz.func199.trans (congrArg some (by kernel_rfl))
 f277:=Tryz.func260.trans (congrArg some (by kernel_rfl))
 t0:=Tryz.underlying0
 a0:=Tryz.isAgg0
 z0:=Tryz.sizeOf0
 v0:=Tryz.zeroValue0
 t3:=Tryz.underlying3
 a3:=Tryz.isAgg3
 z3:=Tryz.sizeOf3
 v3:=Tryz.zeroValue3
 t4:=Tryz.underlying4
 a4:=Tryz.isAgg4
 z4:=Tryz.sizeOf4
 v4:=Tryz.zeroValue4
 t9:=Tryz.underlying9
 a9:=Tryz.isAgg9
 z9:=Tryz.sizeOf9
 v9:=Tryz.zeroValue9
 t20:=Tryz.underlying20
 a20:=Tryz.isAgg20
 z20:=Tryz.sizeOf20
 v20:=Tryz.zeroValue20
 t31:=Tryz.underlying101
 a31:=Tryz.isAgg101
 z31:=Tryz.sizeOf101
 v31:=Tryz.zeroValue101
 t37:=Tryz.underlying99
 a37:=Tryz.isAgg99
 z37:=Tryz.sizeOf99
 v37:=Tryz.zeroValue99
 t70:=Tryz.underlying158
 a70:=Tryz.isAgg158
 z70:=Tryz.sizeOf158
 v70:=Tryz.zeroValue158
 t72:=Tryz.underlying160
 a72:=Tryz.isAgg160
 z72:=Tryz.sizeOf160
 v72:=Tryz.zeroValue160
 t75:=Tryz.underlying163
 a75:=Tryz.isAgg163
 z75:=Tryz.sizeOf163
 v75:=Tryz.zeroValue163
 t76:=Tryz.underlying164
 a76:=Tryz.isAgg164
 z76:=Tryz.sizeOf164
 v76:=Tryz.zeroValue164
 t127:=Tryz.underlying237
 a127:=Tryz.isAgg237
 z127:=Tryz.sizeOf237
 v127:=Tryz.zeroValue237
 t164:=Tryz.underlying297
 a164:=Tryz.isAgg297
 z164:=Tryz.sizeOf297
 v164:=Tryz.zeroValue297 }
theorem Tryz.Builder_Extra_156:Builder.Extra Tryz.prog Tryz.lays156_ren:={
 sizeBuilder:=by kernel_rfl
 liesBuilder:=by kernel_rfl
 t5:=Tryz.underlying5
 a5:=Tryz.isAgg5
 z5:=Tryz.sizeOf5
 v5:=Tryz.zeroValue5
 infoByte:=by kernel_rfl
 cellsByte:=by kernel_rfl
 sizeByte:=by kernel_rfl
 neB5:=by decide }
open Go.RowKit in
theorem Tryz.strings_Join (bk o c:Nat) (xs:List ByteArray) (sep:ByteArray) (w:World) (hcells:∀ (j:Nat) x,xs[j]?=some x->w.cell? ⟨bk,o+j,none⟩=some (.string x)) (hbk:bk < w.heap.size) (hN:xs.length<=140737488355328) (hcap:xs.length<=c) (hlen:(Lib.join (xs.map (·.data.toList)) sep.data.toList).length<=140737488355328) :
  Calls Tryz.prog 356 #[.slice (some ⟨bk,o,none⟩) xs.length c,.string sep] w λ e w'=>e=.returned (.string ⟨(Lib.join (xs.map (·.data.toList)) sep.data.toList).toArray⟩)/\Below w.heap.size w w':=Any.strings_Join Tryz.lays156 Tryz.Builder_Extra_156 bk o c xs sep w hcells hbk hN hcap hlen
def Tryz.lays160_ren:Go.Shelf.Ren:=⟨λ | 160=>144 | 232=>204 | 231=>203 | 227=>205 | 234=>207 | 233=>206 | 236=>209 | 235=>208 | 228=>239 | 271=>242 | 151=>241 | 197=>240 | 120=>263 | 152=>262 | 260=>261 | 137=>270 | 119=>271 | 224=>272 | 225=>273 | 217=>275 | 266=>276 | n=>n,λ | 9=>9 | 4=>4 | 3=>3 | 5=>5 | 117=>305 | 116=>304 | 0=>0 | 124=>308 | 21=>21 | 105=>345 | 46=>293 | 119=>372 | 139=>375 | 138=>374 | n=>n,λ | 3=>1 | 4=>2 | n=>n⟩
theorem Tryz.lays160:Go.Proofs.Lays.n160 Tryz.prog Tryz.lays160_ren:={
 mixed:=by kernel_rfl
 f119:=Tryz.func271.trans (congrArg some (by kernel_rfl))
 f120:=Tryz.func263.trans (congrArg some (by kernel_rfl))
 f137:=Tryz.func270.trans (congrArg some (by kernel_rfl))
 f151:=Tryz.func241.trans (congrArg some (by kernel_rfl))
 f152:=Tryz.func262.trans (congrArg some (by kernel_rfl))
 f160:=Tryz.func144.trans (congrArg some (by kernel_rfl))
 f197:=Tryz.func240.trans (congrArg some (by kernel_rfl))
 f217:=Tryz.func275.trans (congrArg some (by kernel_rfl))
 f224:=Tryz.func272.trans (congrArg some (by kernel_rfl))
 f225:=Tryz.func273.trans (congrArg some (by kernel_rfl))
 f227:=Tryz.func205.trans (congrArg some (by kernel_rfl))
 f228:=Tryz.func239.trans (congrArg some (by kernel_rfl))
 f231:=Tryz.func203.trans (congrArg some (by kernel_rfl))
 f232:=Tryz.func204.trans (congrArg some (by kernel_rfl))
 f233:=Tryz.func206.trans (congrArg some (by kernel_rfl))
 f234:=Tryz.func207.trans (congrArg some (by kernel_rfl))
 f235:=Tryz.func208.trans (congrArg some (by kernel_rfl))
 f236:=Tryz.func209.trans (congrArg some (by kernel_rfl))
 f260:=Tryz.func261.trans (congrArg some (by kernel_rfl))
 f266:=Tryz.func276.trans (congrArg some (by kernel_rfl))
 f271:=Tryz.func242.trans (congrArg some (by kernel_rfl))
 t0:=Tryz.underlying0
 a0:=Tryz.isAgg0
 z0:=Tryz.sizeOf0
 v0:=Tryz.zeroValue0
 t3:=Tryz.underlying3
 a3:=Tryz.isAgg3
 z3:=Tryz.sizeOf3
 v3:=Tryz.zeroValue3
 t4:=Tryz.underlying4
 a4:=Tryz.isAgg4
 z4:=Tryz.sizeOf4
 v4:=Tryz.zeroValue4
 t5:=Tryz.underlying5
 a5:=Tryz.isAgg5
 z5:=Tryz.sizeOf5
 v5:=Tryz.zeroValue5
 t9:=Tryz.underlying9
 a9:=Tryz.isAgg9
 z9:=Tryz.sizeOf9
 v9:=Tryz.zeroValue9
 t21:=Tryz.underlying21
 a21:=Tryz.isAgg21
 z21:=Tryz.sizeOf21
 v21:=Tryz.zeroValue21
 t46:=Tryz.underlying293
 a46:=Tryz.isAgg293
 z46:=Tryz.sizeOf293
 v46:=Tryz.zeroValue293
 t105:=Tryz.underlying345
 a105:=Tryz.isAgg345
 z105:=Tryz.sizeOf345
 v105:=Tryz.zeroValue345
 t116:=Tryz.underlying304
 a116:=Tryz.isAgg304
 z116:=Tryz.sizeOf304
 t117:=Tryz.underlying305
 a117:=Tryz.isAgg305
 z117:=Tryz.sizeOf305
 v117:=Tryz.zeroValue305
 t119:=Tryz.underlying372
 a119:=Tryz.isAgg372
 z119:=Tryz.sizeOf372
 t124:=Tryz.underlying308
 a124:=Tryz.isAgg308
 z124:=Tryz.sizeOf308
 v124:=Tryz.zeroValue308
 t138:=Tryz.underlying374
 a138:=Tryz.isAgg374
 z138:=Tryz.sizeOf374
 v138:=Tryz.zeroValue374
 t139:=Tryz.underlying375
 a139:=Tryz.isAgg375
 z139:=Tryz.sizeOf375
 v139:=Tryz.zeroValue375
 g3:=by kernel_rfl
 g4:=by kernel_rfl }
open Go.RowKit in
theorem Tryz.strings_Trim_one (s:ByteArray) (c:UInt8) (hc:c.toNat < 128) (w:World) (hs:s.size<=9223372036854775807) :
  Calls Tryz.prog 144 #[.string s,.string ⟨#[c]⟩] w λ e w'=>e=.returned (.string ⟨(Lib.trimB s.data.toList c).toArray⟩)/\(w'=w\/w'=w.drew):=Any.strings_Trim_one Tryz.lays160 s c hc w hs
def Tryz.lays125_ren:Go.Shelf.Ren:=⟨λ | 125=>224 | 128=>252 | 129=>253 | n=>n,λ | 46=>293 | 3=>3 | 51=>338 | 53=>46 | 4=>4 | 5=>5 | 9=>9 | n=>n,λ | n=>n⟩
theorem Tryz.lays125:Go.Proofs.Lays.n125 Tryz.prog Tryz.lays125_ren:={
 mixed:=by kernel_rfl
 f125:=Tryz.func224.trans (congrArg some (by kernel_rfl))
 f128:=Tryz.func252.trans (congrArg some (by kernel_rfl))
 f129:=Tryz.func253.trans (congrArg some (by kernel_rfl))
 t3:=Tryz.underlying3
 a3:=Tryz.isAgg3
 z3:=Tryz.sizeOf3
 v3:=Tryz.zeroValue3
 t4:=Tryz.underlying4
 a4:=Tryz.isAgg4
 z4:=Tryz.sizeOf4
 v4:=Tryz.zeroValue4
 t5:=Tryz.underlying5
 a5:=Tryz.isAgg5
 z5:=Tryz.sizeOf5
 v5:=Tryz.zeroValue5
 t9:=Tryz.underlying9
 a9:=Tryz.isAgg9
 z9:=Tryz.sizeOf9
 v9:=Tryz.zeroValue9
 t46:=Tryz.underlying293
 a46:=Tryz.isAgg293
 z46:=Tryz.sizeOf293
 v46:=Tryz.zeroValue293
 t51:=Tryz.underlying338
 a51:=Tryz.isAgg338
 z51:=Tryz.sizeOf338
 v51:=Tryz.zeroValue338
 t53:=Tryz.underlying46
 a53:=Tryz.isAgg46
 z53:=Tryz.sizeOf46
 v53:=Tryz.zeroValue46 }
theorem Tryz.bits_Len (x:Int) (w:World) (h0:0<=x) (h1:x<=18446744073709551615) :
  Calls Tryz.prog 224 #[.int .u64 x] w λ e w'=>e=.returned (.int .i64 (Lib.bitLen x.toNat))/\w'=w:=Any.bits_Len Tryz.lays125 x w h0 h1
def Tryz.lays122_ren:Go.Shelf.Ren:=⟨λ | 122=>226 | 215=>254 | n=>n,λ | 3=>3 | 4=>4 | n=>n,λ | n=>n⟩
theorem Tryz.lays122:Go.Proofs.Lays.n122 Tryz.prog Tryz.lays122_ren:={
 mixed:=by kernel_rfl
 f122:=Tryz.func226.trans (congrArg some (by kernel_rfl))
 f215:=Tryz.func254.trans (congrArg some (by kernel_rfl))
 t3:=Tryz.underlying3
 a3:=Tryz.isAgg3
 z3:=Tryz.sizeOf3
 v3:=Tryz.zeroValue3
 t4:=Tryz.underlying4
 a4:=Tryz.isAgg4
 z4:=Tryz.sizeOf4
 v4:=Tryz.zeroValue4 }
open Go.RowKit in
theorem Tryz.cmp_Compare_int (x y:Int) (w:World) :
  Calls Tryz.prog 226 #[.int .i64 x,.int .i64 y] w λ e w'=>e=.returned (.int .i64 (Lib.compareInt x y))/\w'=w:=Any.cmp_Compare_int Tryz.lays122 x y w
def Tryz.lays189_ren:Go.Shelf.Ren:=⟨λ | 189=>364 | 125=>224 | 257=>367 | 128=>252 | 129=>253 | 294=>368 | 295=>369 | 296=>370 | 297=>371 | 298=>372 | 299=>373 | 216=>374 | 300=>375 | 301=>376 | 328=>377 | 329=>265 | 330=>266 | 331=>378 | 332=>379 | 215=>254 | 343=>380 | n=>n,λ | 28=>36 | 3=>3 | 46=>293 | 0=>0 | 51=>338 | 53=>46 | 4=>4 | 183=>351 | 182=>350 | 131=>197 | 5=>5 | 9=>9 | 218=>363 | 222=>367 | 228=>379 | 229=>380 | n=>n,λ | n=>n⟩
theorem Tryz.lays189:Go.Proofs.Lays.n189 Tryz.prog Tryz.lays189_ren:={
 mixed:=by kernel_rfl
 f125:=Tryz.func224.trans (congrArg some (by kernel_rfl))
 f128:=Tryz.func252.trans (congrArg some (by kernel_rfl))
 f129:=Tryz.func253.trans (congrArg some (by kernel_rfl))
 f189:=Tryz.func364.trans (congrArg some (by kernel_rfl))
 f215:=Tryz.func254.trans (congrArg some (by kernel_rfl))
 f216:=Tryz.func374.trans (congrArg some (by kernel_rfl))
 f257:=Tryz.func367.trans (congrArg some (by kernel_rfl))
 f294:=Tryz.func368.trans (congrArg some (by kernel_rfl))
 f295:=Tryz.func369.trans (congrArg some (by kernel_rfl))
 f296:=Tryz.func370.trans (congrArg some (by kernel_rfl))
 f297:=Tryz.func371.trans (congrArg some (by kernel_rfl))
 f298:=Tryz.func372.trans (congrArg some (by kernel_rfl))
 f299:=Tryz.func373.trans (congrArg some (by kernel_rfl))
 f300:=Tryz.func375.trans (congrArg some (by kernel_rfl))
 f301:=Tryz.func376.trans (congrArg some (by kernel_rfl))
 f328:=Tryz.func377.trans (congrArg some (by kernel_rfl))
 f329:=Tryz.func265.trans (congrArg some (by kernel_rfl))
 f330:=Tryz.func266.trans (congrArg some (by kernel_rfl))
 f331:=Tryz.func378.trans (congrArg some (by kernel_rfl))
 f332:=Tryz.func379.trans (congrArg some (by kernel_rfl))
 f343:=Tryz.func380.trans (congrArg some (by kernel_rfl))
 t0:=Tryz.underlying0
 a0:=Tryz.isAgg0
 z0:=Tryz.sizeOf0
 v0:=Tryz.zeroValue0
 t3:=Tryz.underlying3
 a3:=Tryz.isAgg3
 z3:=Tryz.sizeOf3
 v3:=Tryz.zeroValue3
 t4:=Tryz.underlying4
 a4:=Tryz.isAgg4
 z4:=Tryz.sizeOf4
 v4:=Tryz.zeroValue4
 t5:=Tryz.underlying5
 a5:=Tryz.isAgg5
 z5:=Tryz.sizeOf5
 v5:=Tryz.zeroValue5
 t9:=Tryz.underlying9
 a9:=Tryz.isAgg9
 z9:=Tryz.sizeOf9
 v9:=Tryz.zeroValue9
 t28:=Tryz.underlying36
 a28:=Tryz.isAgg36
 z28:=Tryz.sizeOf36
 v28:=Tryz.zeroValue36
 t46:=Tryz.underlying293
 a46:=Tryz.isAgg293
 z46:=Tryz.sizeOf293
 v46:=Tryz.zeroValue293
 t51:=Tryz.underlying338
 a51:=Tryz.isAgg338
 z51:=Tryz.sizeOf338
 v51:=Tryz.zeroValue338
 t53:=Tryz.underlying46
 a53:=Tryz.isAgg46
 z53:=Tryz.sizeOf46
 v53:=Tryz.zeroValue46
 t131:=Tryz.underlying197
 a131:=Tryz.isAgg197
 z131:=Tryz.sizeOf197
 v131:=Tryz.zeroValue197
 t182:=Tryz.underlying350
 a182:=Tryz.isAgg350
 z182:=Tryz.sizeOf350
 v182:=Tryz.zeroValue350
 t183:=Tryz.underlying351
 a183:=Tryz.isAgg351
 z183:=Tryz.sizeOf351
 v183:=Tryz.zeroValue351
 t218:=Tryz.underlying363
 a218:=Tryz.isAgg363
 z218:=Tryz.sizeOf363
 v218:=Tryz.zeroValue363
 t222:=Tryz.underlying367
 a222:=Tryz.isAgg367
 z222:=Tryz.sizeOf367
 v222:=Tryz.zeroValue367
 t228:=Tryz.underlying379
 a228:=Tryz.isAgg379
 z228:=Tryz.sizeOf379
 v228:=Tryz.zeroValue379
 t229:=Tryz.underlying380
 a229:=Tryz.isAgg380
 z229:=Tryz.sizeOf380
 v229:=Tryz.zeroValue380 }
open Go.Sort Go.RowKit in
theorem Tryz.slices_Sort_int (blk off cap:Nat) (zs:List Int) (w:World) (hH:Holds (Value.int .i64) w blk off zs.toArray) (hblk:blk < w.heap.size) (hsz:zs.length < 4611686018427387904) :
  Calls Tryz.prog 364 #[.slice (some ⟨blk,off,none⟩) zs.length cap] w λ e w' =>
   e=.returned (.tuple #[])/\∃ n os,w'=grow (putRow (Value.int .i64) (Sort.ahead w n) blk off (zs.mergeSort λ x y=>decide (x<=y)).toArray) os:=Any.slices_Sort_int Tryz.lays189 blk off cap zs w hH hblk hsz
def Tryz.lays105_ren:Go.Shelf.Ren:=⟨λ | 105=>138 | 212=>195 | 99=>196 | 165=>197 | 166=>78 | 170=>198 | 169=>79 | 263=>234 | 264=>235 | 206=>236 | 240=>139 | 241=>237 | 276=>199 | 277=>260 | n=>n,λ | 9=>9 | 3=>3 | 4=>4 | 20=>20 | 0=>0 | 46=>293 | 109=>294 | 5=>5 | 72=>160 | 76=>164 | 51=>338 | 146=>339 | 53=>46 | 148=>341 | 70=>158 | 37=>99 | 75=>163 | 127=>237 | 164=>297 | 80=>166 | n=>n,λ | n=>n⟩
theorem Tryz.lays105:Go.Proofs.Lays.n105 Tryz.prog Tryz.lays105_ren:={
 mixed:=by kernel_rfl
 f99:=Tryz.func196.trans (congrArg some (by kernel_rfl))
 f105:=Tryz.func138.trans (congrArg some (by kernel_rfl))
 f165:=Tryz.func197.trans (congrArg some (by kernel_rfl))
 f166:=Tryz.func78.trans (congrArg some (by kernel_rfl))
 f169:=Tryz.func79.trans (congrArg some (by kernel_rfl))
 f170:=Tryz.func198.trans (congrArg some (by kernel_rfl))
 f206:=Tryz.func236.trans (congrArg some (by kernel_rfl))
 f212:=Tryz.func195.trans (congrArg some (by kernel_rfl))
 f240:=Tryz.func139.trans (congrArg some (by kernel_rfl))
 f241:=Tryz.func237.trans (congrArg some (by kernel_rfl))
 f263:=Tryz.func234.trans (congrArg some (by kernel_rfl))
 f264:=Tryz.func235.trans (congrArg some (by kernel_rfl))
 f276:=Tryz.func199.trans (congrArg some (by kernel_rfl))
 f277:=Tryz.func260.trans (congrArg some (by kernel_rfl))
 t0:=Tryz.underlying0
 a0:=Tryz.isAgg0
 z0:=Tryz.sizeOf0
 v0:=Tryz.zeroValue0
 t3:=Tryz.underlying3
 a3:=Tryz.isAgg3
 z3:=Tryz.sizeOf3
 v3:=Tryz.zeroValue3
 t4:=Tryz.underlying4
 a4:=Tryz.isAgg4
 z4:=Tryz.sizeOf4
 v4:=Tryz.zeroValue4
 t5:=Tryz.underlying5
 a5:=Tryz.isAgg5
 z5:=Tryz.sizeOf5
 v5:=Tryz.zeroValue5
 t9:=Tryz.underlying9
 a9:=Tryz.isAgg9
 z9:=Tryz.sizeOf9
 v9:=Tryz.zeroValue9
 t20:=Tryz.underlying20
 a20:=Tryz.isAgg20
 z20:=Tryz.sizeOf20
 v20:=Tryz.zeroValue20
 t37:=Tryz.underlying99
 a37:=Tryz.isAgg99
 z37:=Tryz.sizeOf99
 v37:=Tryz.zeroValue99
 t46:=Tryz.underlying293
 a46:=Tryz.isAgg293
 z46:=Tryz.sizeOf293
 v46:=Tryz.zeroValue293
 t51:=Tryz.underlying338
 a51:=Tryz.isAgg338
 z51:=Tryz.sizeOf338
 v51:=Tryz.zeroValue338
 t53:=Tryz.underlying46
 a53:=Tryz.isAgg46
 z53:=Tryz.sizeOf46
 v53:=Tryz.zeroValue46
 t70:=Tryz.underlying158
 a70:=Tryz.isAgg158
 z70:=Tryz.sizeOf158
 v70:=Tryz.zeroValue158
 t72:=Tryz.underlying160
 a72:=Tryz.isAgg160
 z72:=Tryz.sizeOf160
 v72:=Tryz.zeroValue160
 t75:=Tryz.underlying163
 a75:=Tryz.isAgg163
 z75:=Tryz.sizeOf163
 v75:=Tryz.zeroValue163
 t76:=Tryz.underlying164
 a76:=Tryz.isAgg164
 z76:=Tryz.sizeOf164
 v76:=Tryz.zeroValue164
 t109:=Tryz.underlying294
 a109:=Tryz.isAgg294
 z109:=Tryz.sizeOf294
 v109:=Tryz.zeroValue294
 t127:=Tryz.underlying237
 a127:=Tryz.isAgg237
 z127:=Tryz.sizeOf237
 v127:=Tryz.zeroValue237
 t146:=Tryz.underlying339
 a146:=Tryz.isAgg339
 z146:=Tryz.sizeOf339
 v146:=Tryz.zeroValue339
 t148:=Tryz.underlying341
 a148:=Tryz.isAgg341
 z148:=Tryz.sizeOf341
 v148:=Tryz.zeroValue341
 t164:=Tryz.underlying297
 a164:=Tryz.isAgg297
 z164:=Tryz.sizeOf297
 v164:=Tryz.zeroValue297 }
theorem Tryz.Builder_Extra_105:Builder.Extra Tryz.prog Tryz.lays105_ren:={
 sizeBuilder:=by kernel_rfl
 liesBuilder:=by kernel_rfl
 t5:=Tryz.underlying5
 a5:=Tryz.isAgg5
 z5:=Tryz.sizeOf5
 v5:=Tryz.zeroValue5
 infoByte:=by kernel_rfl
 cellsByte:=by kernel_rfl
 sizeByte:=by kernel_rfl
 neB5:=by decide }
open Go.RowKit Go.Lib in
theorem Tryz.strings_Repeat (s:ByteArray) (c:Nat) (w:World) (hc:c<=9223372036854775807) (hlen:s.size*c<=140737488355328) :
  Calls Tryz.prog 138 #[.string s,.int .i64 c] w λ e w'=>e=.returned (.string ⟨(Lib.repeatL s.data.toList c).toArray⟩)/\Below w.heap.size w w':=Any.strings_Repeat Tryz.lays105 Tryz.Builder_Extra_105 s c w hc hlen
def Tryz.lays110_ren:Go.Shelf.Ren:=⟨λ | 110=>344 | 109=>352 | n=>n,λ | 31=>101 | 9=>9 | 4=>4 | 3=>3 | 0=>0 | n=>n,λ | n=>n⟩
theorem Tryz.lays110:Go.Proofs.Lays.n110 Tryz.prog Tryz.lays110_ren:={
 mixed:=by kernel_rfl
 f109:=Tryz.func352.trans (congrArg some (by kernel_rfl))
 f110:=Tryz.func344.trans (congrArg some (by kernel_rfl))
 t0:=Tryz.underlying0
 a0:=Tryz.isAgg0
 z0:=Tryz.sizeOf0
 v0:=Tryz.zeroValue0
 t3:=Tryz.underlying3
 a3:=Tryz.isAgg3
 z3:=Tryz.sizeOf3
 v3:=Tryz.zeroValue3
 t4:=Tryz.underlying4
 a4:=Tryz.isAgg4
 z4:=Tryz.sizeOf4
 v4:=Tryz.zeroValue4
 t9:=Tryz.underlying9
 a9:=Tryz.isAgg9
 z9:=Tryz.sizeOf9
 v9:=Tryz.zeroValue9
 t31:=Tryz.underlying101
 a31:=Tryz.isAgg101
 z31:=Tryz.sizeOf101
 v31:=Tryz.zeroValue101 }
open Go.Lib in
theorem Tryz.slices_Contains_string (b off n c:Nat) (zs:List ByteArray) (x:ByteArray) (w:World) (hz:n<=zs.length) (hbig:n<=9223372036854775807) (hc:∀ j,j < zs.length->w.cell? ⟨b,off+j,none⟩=some (.string (zs.getD j ByteArray.empty))) :
  Calls Tryz.prog 344 #[.slice (some ⟨b,off,none⟩) n c,.string x] w λ e w'=>e=.returned (.bool (Lib.containsS (zs.take n) x))/\w'=w:=Any.slices_Contains_string Tryz.lays110 b off n c zs x w hz hbig hc
def Tryz.laysNm220_ren:Go.Shelf.Ren:=⟨λ | 20=>365 | n=>n,λ | 22=>36 | 3=>3 | 4=>4 | 0=>0 | n=>n,λ | n=>n⟩
theorem Tryz.laysNm220:Go.Proofs.Lays2.n20 Tryz.prog Tryz.laysNm220_ren:={
 mixed:=by kernel_rfl
 f20:=Tryz.func365.trans (congrArg some (by kernel_rfl))
 t0:=Tryz.underlying0
 a0:=Tryz.isAgg0
 z0:=Tryz.sizeOf0
 v0:=Tryz.zeroValue0
 t3:=Tryz.underlying3
 a3:=Tryz.isAgg3
 z3:=Tryz.sizeOf3
 v3:=Tryz.zeroValue3
 t4:=Tryz.underlying4
 a4:=Tryz.isAgg4
 z4:=Tryz.sizeOf4
 v4:=Tryz.zeroValue4
 t22:=Tryz.underlying36
 a22:=Tryz.isAgg36
 z22:=Tryz.sizeOf36
 v22:=Tryz.zeroValue36
 i3:=by kernel_rfl }
open Go.RowKit Go.Lib Go.Sort in
theorem Tryz.slices_Compact_int (blk off cap:Nat) (zs:List Int) (w:World) (hH:Holds (Value.int .i64) w blk off zs.toArray) (hsz:zs.length<=9223372036854775807) (hcap:zs.length<=cap) :
  Calls Tryz.prog 365 #[.slice (some ⟨blk,off,none⟩) zs.length cap] w λ e w'=>e=.returned (.slice (some ⟨blk,off,none⟩) (Lib.compact zs).length cap)/\∃ q,w'=putRow (Value.int .i64) (Sort.ahead w q) blk off (Lib.compact zs++List.replicate (zs.length - (Lib.compact zs).length) 0).toArray:=Any.slices_Compact_int Tryz.laysNm220 blk off cap zs w hH hsz hcap
end Go.Proofs
namespace Go.Proofs.YtlfjdjndhcmliaaGreatDoor
open Go.RowKit Go.Sort
def numL:List UInt8->Nat
 | []=>0
 | b::r=>b.toNat+256*numL r
theorem numL_append:∀ a b:List UInt8,numL (a++b)=numL a+256 ^ a.length*numL b
 | [],b=>by simp [numL]
 | x::a,b=>by simp only [List.cons_append,numL,numL_append a b,List.length_cons,Nat.pow_succ];rw [Nat.mul_add,<- Nat.mul_assoc,Nat.mul_comm 256 (256 ^ a.length)];omega
theorem numL_lt:∀ l:List UInt8,numL l < 256 ^ l.length
 | []=>by simp [numL]
 | b::r=>by
  have h:=numL_lt r
  have hb:b.toNat < 256:=b.toNat_lt
  simp only [numL,List.length_cons,Nat.pow_succ]
  omega
def num (s:ByteArray) (i k:Nat):Nat:=numL ((s.data.toList.drop i).take k)
theorem size_list (s:ByteArray):s.data.toList.length=s.size:=by rw [Array.length_toList];rfl
theorem num_len (s:ByteArray) (i k:Nat) (h:i+k<=s.size):((s.data.toList.drop i).take k).length=k:=by
 rw [List.length_take,List.length_drop,size_list];omega
theorem num_zero (s:ByteArray) (i:Nat):num s i 0=0:=by simp [num,numL]
theorem num_lt (s:ByteArray) (i k:Nat) (h:i+k<=s.size):num s i k < 256 ^ k:=by
 have:=numL_lt ((s.data.toList.drop i).take k)
 rwa [num_len s i k h] at this
theorem num_succ (s:ByteArray) (i k:Nat) (h:i+k < s.size):num s i (k+1)=num s i k+256 ^ k*(s[i+k]'h).toNat:=by
 have hl:k < (s.data.toList.drop i).length:=by rw [List.length_drop,size_list];omega
 have e:(s.data.toList.drop i)[k]=s[i+k]'h:=by rw [List.getElem_drop];rfl
 unfold num
 rw [List.take_succ_eq_append_getElem hl,numL_append,<- num,num_len s i k (by omega),e]
 simp [numL]
theorem num_or (s:ByteArray) (i k:Nat) (h:i+k < s.size) (hk:k < 8) :
  bits .or .u64 (num s i k:Int) ((((s[i+k]'h).toNat*256 ^ k:Nat)):Int)=(num s i (k+1):Int):=by
 have h1:=num_lt s i k (by omega)
 have h2:=num_lt s i (k+1) (by omega)
 have h3:=num_succ s i k h
 have h4:(256:Nat) ^ (k+1)<=256 ^ 8:=Nat.pow_le_pow_right (by omega) (by omega)
 have hp:(256:Nat) ^ k=2 ^ (8*k):=by rw [show (256:Nat)=2 ^ 8 from rfl,<- Nat.pow_mul]
 rw [Nat.mul_comm] at h3
 rw [bits_or_u64_nat _ _ (by omega) (by omega),Nat.or_comm,nat_join (8*k) _ _ (by rw [hp];simp) (by omega),Nat.add_comm,h3]
theorem shl_byte (B k:Nat) (hB:B < 256) (hk:k < 8):IntKind.u64.wrap ((B:Int)*2 ^ (8*k))=((B*256 ^ k:Nat):Int):=by
 have hq:B*256 ^ k < 256 ^ 8:=Nat.lt_of_lt_of_le (Nat.mul_lt_mul_of_pos_right hB (Nat.pow_pos (by omega))) (by rw [Nat.mul_comm,<- Nat.pow_succ];exact Nat.pow_le_pow_right (by omega) (by omega))
 have e:(B:Int)*2 ^ (8*k)=((B*256 ^ k:Nat):Int):=by
  have hp:(256:Nat) ^ k=2 ^ (8*k):=by rw [show (256:Nat)=2 ^ 8 from rfl,<- Nat.pow_mul]
  rw [hp,Int.natCast_mul,Int.natCast_pow];rfl
 have h8:(256:Nat) ^ 8=18446744073709551616:=by decide
 rw [e,IntKind.wrap_u64]
 omega
class Rd (b:Nat) (s:ByteArray) (i:Nat) (w:World):Prop where
 old:Old b w
 c0:w.cell? ⟨b,0,none⟩=some (.string s)
 c1:w.cell? ⟨b,1,none⟩=some (.int .i64 i)
 fr:w.frozen? ⟨b,1,none⟩=false
theorem Rd.gr {b:Nat} {s:ByteArray} {i:Nat} {w:World} (h:Rd b s i w) (g:Gr):Rd b s i (gr w g):=by
 haveI:=h.old
 exact ⟨ii,(cell_gr ..).trans h.c0,(cell_gr ..).trans h.c1,(frozen_gr ..).trans h.fr⟩
set_option maxRecDepth 512 in
theorem Left_at {b:Nat} {s:ByteArray} {i:Nat} (hi:i<=s.size) (hs:s.size < 4611686018427387904) (w:World) (h:Rd b s i w) :
  Calls Tryz.prog 200 #[.pointer (some ⟨b,0,none⟩)] w λ e w'=>e=.returned (.int .i64 ((s.size:Int) - i))/\∃ g:Gr,w'=gr w g:=by
 haveI:=h.old
 have h0:=h.c0
 have h1:=h.c1
 go_enter Tryz.func200,Tryz.ntmps200
 go_wp2_with fail
 refine wp_region_gr (by kernel_rfl) (by kernel_rfl) ?_
 repeat (go_big_quiet_step (fail))
 refine wpQuiet_nil ?_
 rintro _ ⟨g,rfl⟩
 go_wp2_with fail
 go_ret
 exact ⟨rfl,_,rfl⟩
set_option maxRecDepth 512 in
theorem number_at {b:Nat} {s:ByteArray} {i n:Nat} (hn:n<=8) (hi:i+n<=s.size) (hs:s.size < 4611686018427387904) (w:World) (h:Rd b s i w) :
  Calls Tryz.prog 202 #[.pointer (some ⟨b,0,none⟩),.int .i64 (n:Int)] w λ e w' =>
   e=.returned (.tuple #[.int .u64 (num s i n:Int),.int .i64 0])/\∃ g:Gr,w'=gr (w.setCell ⟨b,1,none⟩ (.int .i64 ((i+n:Nat):Int))) g:=by
 haveI:=h.old
 have h0:=h.c0
 have h1:=h.c1
 have hf:=h.fr
 have c1:=Left_at (by omega) hs w h
 clear h
 go_enter Tryz.func202,Tryz.ntmps202
 go_wp2_with (go_at_call 200;with_reducible refine c1.mono ?_;rintro e w' ⟨rfl,g,rfl⟩)
 go_loopw [6,13] (λ v c wr=>∃ k:Nat,k<=n/\c=.int .i64 k/\v=.int .u64 (num s i k:Int)/\∃ g':Gr,wr=gr w g')
  (λ _ c _=>n - (intOf c).toNat)
 case atStart=>exact ⟨0,Nat.zero_le _,rfl,by rw [num_zero];rfl,_,rfl⟩
 case round =>
  obtain ⟨k,hk,rfl,rfl,g',rfl⟩:=hrel
  by_cases hlt:k < n
  ·have hor:=num_or s i k (by omega) (by omega)
   obtain ⟨B,hB⟩:∃ B:Nat,(s[i+k]'(by omega)).toNat=B:=⟨_,rfl⟩
   have hB8:B < 256:=by rw [<-hB];exact UInt8.toNat_lt _
   have hix:∀ W:World,(Instr.index 9 (.string s) (.int .i64 ((i:Int)+(k:Int)))).run Tryz.prog W=.ok (.int .u8 (B:Int)) W:=λ W=>by
    rw [run_index_string (P:=Tryz.prog) W _ s _ _ Tryz.underlying9,dif_pos (by omega)]
    have e:((i:Int)+(k:Int)).toNat=i+k:=by omega
    simp only [e,hB]
   rw [hB] at hor
   obtain ⟨X,hX⟩:∃ X:Nat,num s i k=X:=⟨_,rfl⟩
   obtain ⟨Y,hY⟩:∃ Y:Nat,num s i (k+1)=Y:=⟨_,rfl⟩
   rw [hX,hY] at hor
   rw [hX]
   have HY:=Lib.hid hY
   have HO:=Lib.hid hor
   clear hX hY hor hB c1
   have hsh:Hid (IntKind.u64.wrap ((B:Int)*2 ^ (8*k))=((B*256 ^ k:Nat):Int)):=shl_byte B k hB8 (by omega)
   go_wp2_with fail
   refine wp_region_gr2 (by kernel_rfl) (by kernel_rfl) ?_
   repeat (go_big_quiet_step (fail))
   refine wpQuiet_nil ?_
   rintro _ ⟨g5,rfl⟩
   go_wp2_with fail
   go_roundw
   case rel=>exact ⟨k+1,by omega,by go_num,by rw [hsh.out,HO.out,HY.out],_,rfl⟩
   case measure=>simp [intOf];omega
  ·obtain rfl:n=k:=by omega
   go_wp2_with fail
   go_ret2
   exact ⟨rfl,_,rfl⟩
set_option maxRecDepth 512 in
theorem U32_at {b:Nat} {s:ByteArray} {i:Nat} (hi:i+4<=s.size) (hs:s.size < 4611686018427387904) (w:World) (h:Rd b s i w) :
  Calls Tryz.prog 238 #[.pointer (some ⟨b,0,none⟩)] w λ e w' =>
   e=.returned (.tuple #[.int .i64 (num s i 4:Int),.int .i64 0])/\∃ g:Gr,w'=gr (w.setCell ⟨b,1,none⟩ (.int .i64 ((i+4:Nat):Int))) g:=by
 have c1:Calls Tryz.prog 202 #[.pointer (some ⟨b,0,none⟩),.int .i64 4] w λ e w'=>e=.returned (.tuple #[.int .u64 (num s i 4:Int),.int .i64 0])/\∃ g:Gr,w'=gr (w.setCell ⟨b,1,none⟩ (.int .i64 ((i+4:Nat):Int))) g:=number_at (n:=4) (by omega) hi hs w h
 have hl:=num_lt s i 4 hi
 obtain ⟨X,hX⟩:∃ X:Nat,num s i 4=X:=⟨_,rfl⟩
 rw [hX] at c1 hl ⊢
 clear hX
 go_enter Tryz.func238,Tryz.ntmps238
 go_wp2_with (go_at_call 202;with_reducible refine c1.mono ?_;rintro e w' ⟨rfl,g,rfl⟩)
 go_ret2
 exact ⟨by go_num,_,rfl⟩
set_option maxRecDepth 512 in
theorem New_at (s:ByteArray) (w:World) :
  Calls Tryz.prog 80 #[.string s] w λ e w'=>e=.returned (.pointer (some ⟨w.heap.size,0,none⟩))/\w'=w.alloc (.cells #[.string s,.int .i64 0] 239):=by
 go_enter Tryz.func80,Tryz.ntmps80
 go_wp2_with fail
 go_ret
 exact ⟨rfl,rfl⟩
def padN (s:ByteArray):Nat:=(4 - s.size % 4) % 4
def pad4 (s:ByteArray):ByteArray:=s++⟨(Lib.repeatL [0] (padN s)).toArray⟩
theorem pad4_list (s:ByteArray):(pad4 s).data.toList=s.data.toList++Lib.repeatL [0] (padN s):=by
 simp [pad4,ByteArray.data_append]
@[go_sem] theorem pad4_size (s:ByteArray):(pad4 s).size=s.size+padN s:=by
 rw [<-size_list,pad4_list,List.length_append,size_list,Lib.repeatL_length];simp
theorem padN_lt (s:ByteArray):padN s < 4:=Nat.mod_lt _ (by omega)
theorem pad4_mod (s:ByteArray):(pad4 s).size % 4=0:=by rw [pad4_size,padN];omega
set_option maxRecDepth 512 in
theorem Pad_any (s:ByteArray) (hs:s.size < 4611686018427387900):Pure Tryz.prog 119 #[.string s,.int .i64 4] (.string (pad4 s)):=by
 intro w
 have c0:=λ W:World=>Tryz.strings_Repeat ⟨#[0]⟩ (padN s) W (by have:=padN_lt s;omega) (by have:=padN_lt s;show 1*padN s<=_;omega)
 have c1:∀ (W:World) (z:Int),z=padN s->Calls Tryz.prog 138 #[.string ⟨#[0]⟩,.int .i64 z] W λ e w'=>e=.returned (.string ⟨(Lib.repeatL [0] (padN s)).toArray⟩)/\∃ g:Gr,w'=gr W g:=by
  rintro W z rfl
  exact (c0 W).mono λ e w' ⟨he,hb⟩=>⟨he,gr_of_below hb⟩
 clear c0
 have hp:=pad4_size s
 have hlt:=padN_lt s
 have hpd:padN s=(4 - s.size % 4) % 4:=rfl
 have hcat:s++⟨(Lib.repeatL [0] (padN s)).toArray⟩=pad4 s:=rfl
 have hpz:(⟨(Lib.repeatL [0] (padN s)).toArray⟩:ByteArray).size=padN s:=by rw [<-size_list];simp [Lib.repeatL_length]
 have HC:=Lib.hid hcat
 generalize (⟨(Lib.repeatL [0] (padN s)).toArray⟩:ByteArray)=Z at c1 hpz HC
 clear hcat
 go_enter Tryz.func119,Tryz.ntmps119
 go_wp2_with (go_at_call 138;refine (c1 _ _ (by omega)).mono ?_;rintro e w' ⟨rfl,g,rfl⟩)
 go_ret
 exact Ret.mk (by rw [HC.out];rfl) grown
def wordAt (s:ByteArray) (k:Nat):Nat:=num s (4*k) 4
def nwords (s:ByteArray):Nat:=s.size / 4
def wordsTo (s:ByteArray) (k:Nat):List Nat:=(List.range k).map (wordAt s)
def wordsL (s:ByteArray):List Nat:=wordsTo s (nwords s)
theorem wordsTo_succ (s:ByteArray) (k:Nat):wordsTo s (k+1)=wordsTo s k++[wordAt s k]:=by simp [wordsTo,List.range_succ]
theorem wordsTo_pre (s:ByteArray) {k n:Nat} (h:k<=n):wordsTo s k <+: wordsTo s n:=by
 obtain ⟨d,rfl⟩:=Nat.exists_eq_add_of_le h
 induction d with
 | zero=>exact List.prefix_refl _
 | succ d ih=>rw [<-Nat.add_assoc,wordsTo_succ];exact (ih (by omega)).trans (List.prefix_append _ _)
attribute [local go_sem] Oper.semAt_some
theorem Rd.kept {b:Nat} {s:ByteArray} {i B:Nat} {w w':World} (h:Rd b s i w) (hk:Kept B w w') (hB:B<=b):Rd b s i w':=by
 have hb:=hk.same b hB h.old.h
 exact ⟨⟨Nat.lt_of_lt_of_le h.old.h hk.size⟩,(World.cell?_of_block hb).trans h.c0,(World.cell?_of_block hb).trans h.c1,(World.frozen?_of_block hb).trans h.fr⟩
set_option maxRecDepth 512 in
theorem Words1_own (s:ByteArray) (hs:s.size < 4611686018427387900) (B:Nat) (w:World) (hB:B < w.heap.size) (hc:w.cell? ⟨B,0,none⟩=some (.string s)) :
  SeqOwn Tryz.prog 243 #[.pointer (some ⟨B,0,none⟩)] (λ x:Nat=>#[.int .u64 (x:Int)]) (λ xs=>xs=wordsL (pad4 s)) w:=by
 intro l J Jx W hW hJ hJx hY h0
 have hc':W.cell? ⟨B,0,none⟩=some (.string s):=(hW.cell (p:=⟨B,0,none⟩) hB).trans hc
 clear hc
 refine (callsIn_wide (n:=3)).1 ?_
 refine callsIn_of_wp Tryz.func243 rfl trivial ?_ rfl
 simp only [Tryz.ntmps243,List.size_toArray,List.length_cons,List.length_nil,Nat.reduceAdd,Nat.reduceSub,Array.replicate_succ,Array.replicate_zero,List.push_toArray,List.append_toArray,List.nil_append,List.cons_append]
 have cP:=Pad_any s hs
 gi_wp2_with (first
  | (refine ⟨trivial,?_⟩;gi_at_call 119;refine (callsIn_wide.2 (cP.at _)).mono ?_;rintro e w' ⟨rfl,g,rfl⟩)
  | (refine ⟨trivial,?_⟩;gi_at_call 80;refine (callsIn_wide.2 (New_at _ _)).mono ?_;rintro e w' ⟨rfl,rfl⟩))
 obtain ⟨V,hV⟩:∃ V,(gr W g).alloc (.cells #[.string (pad4 s),.int .i64 0] 239)=V:=⟨_,rfl⟩
 obtain ⟨Z,hZ⟩:∃ Z,(gr W g).heap.size=Z:=⟨_,rfl⟩
 have hR0:Rd Z (pad4 s) 0 V:=by
  rw [<-hV,<- hZ]
  exact ⟨ii,by simp [go_sem],by simp [go_sem],by simp [go_sem]⟩
 have hWV:Below W.heap.size W V:=by rw [<-hV];exact belowAlloc (belowGrU (Below.refl _ _) _) _
 have hJ0:J [] V:=hJ _ _ _ h0 hWV
 have hZ0:W.heap.size<=Z:=by rw [<-hZ];exact size_le_gr _ _
 have hp4:=pad4_mod s
 have hpl:(pad4 s).size < 4611686018427387904:=by rw [pad4_size];have:=padN_lt s;omega
 rw [hV,hZ]
 clear hV hZ hc' cP
 obtain ⟨p,hp⟩:∃ p,pad4 s=p:=⟨_,rfl⟩
 rw [hp] at hR0 hY hp4 hpl ⊢
 have HP:=Lib.hid hp
 clear hp
 gi_loopw [] (λ wr=>∃ k:Nat,k<=nwords p/\Rd Z p (4*k) wr/\J (wordsTo p k) wr)
  (λ wr=>p.size - (intOf ((wr.cell? ⟨Z,1,none⟩).getD undef)).toNat)
 case atStart=>exact ⟨0,Nat.zero_le _,hR0,hJ0⟩
 case round =>
  obtain ⟨k,hk,hR,hJk⟩:=hrel
  have hk4:4*k<=p.size:=by unfold nwords at hk;omega
  have cL:=Left_at hk4 hpl wr hR
  by_cases hlt:k < nwords p
  ·have hlt4:4*k+4<=p.size:=by unfold nwords at hlt;omega
   gi_wp2_with (refine ⟨trivial,?_⟩;gi_at_call 200;refine (callsIn_wide.2 cL).mono ?_;clear cL;rintro e w' ⟨rfl,g1,rfl⟩)
   have cU:=U32_at hlt4 hpl (gr wr g1) (hR.gr g1)
   have hX:num p (4*k) 4=wordAt p k:=rfl
   have hXl:=num_lt p (4*k) 4 hlt4
   rw [hX] at cU hXl
   clear hX
   obtain ⟨X,hX⟩:∃ X,wordAt p k=X:=⟨_,rfl⟩
   rw [hX] at cU hXl
   have HX:=Lib.hid hX
   clear hX
   have hXl':X < 4294967296:=hXl
   clear hXl
   gi_wp2_with (refine ⟨trivial,?_⟩;gi_at_call 238;refine (callsIn_wide.2 cU).mono ?_;clear cU;rintro e w' ⟨rfl,g2,rfl⟩)
   obtain ⟨V2,hV2⟩:∃ V2,gr ((gr wr g1).setCell ⟨Z,1,none⟩ (.int .i64 (4*(k:Int)+4))) g2=V2:=⟨_,rfl⟩
   have hb2:Below W.heap.size wr V2:=by
    haveI:=hR.old
    haveI:Upto W.heap.size wr:=⟨by have:=hR.old.h;omega⟩
    rw [<-hV2]
    exact belowGrU (Below.setCell (belowGrU (Below.refl _ _) _) hZ0 _) _
   have hR2:Rd Z p (4*(k+1)) V2:=by
    haveI:=hR.old
    rw [<-hV2]
    exact ⟨ii,by simp [go_sem,hR.c0],by simp [go_sem,hR.c1];omega,by simp [go_sem,hR.fr]⟩
   have hJ2:=hJ _ _ _ hJk hb2
   obtain ⟨fn,tmps,assign,body,hy,hYR⟩:=hY 2 _ X V2 hJ2 ⟨_,rfl,by rw [<-HX.out,<- wordsTo_succ];exact wordsTo_pre p hlt⟩
   rw [hV2]
   clear hV2 hb2 hJ2
   rw [hy,Oper.uponIn_round]
   refine ⟨λ h=>(by simp [Fence.wide] at h),?_⟩
   refine hYR.mono ?_
   have HJ:=Lib.hid hJ
   clear hJ
   rintro e W3 (⟨rfl,hJ3,hk3⟩ | ⟨rfl,hJx3⟩)
   ·have hR3:=hR2.kept hk3 hZ0
    gi_wp2
    go_roundw
    case rel=>exact ⟨k+1,hlt,hR3,by rw [wordsTo_succ,HX.out];exact hJ3⟩
    case measure =>
     rw [hR3.c1,hR.c1]
     simp [intOf]
     omega
   ·gi_wp2
    refine bodyPost_ret (results_none rfl _ _ _) rfl ?_
    refine ⟨⟨_,rfl⟩,.inr ⟨_,_,rfl,?_,hJx3⟩⟩
    rw [HP.out,<- HX.out,<- wordsTo_succ]
    exact wordsTo_pre p hlt
  ·obtain rfl:k=nwords p:=by omega
   have hz:4*nwords p=p.size:=by unfold nwords;omega
   rw [hz] at cL
   gi_wp2_with (refine ⟨trivial,?_⟩;gi_at_call 200;refine (callsIn_wide.2 cL).mono ?_;clear cL;rintro e w' ⟨rfl,g1,rfl⟩)
   go_end0
   refine ⟨⟨_,rfl⟩,.inl ⟨_,rfl,?_⟩⟩
   rw [HP.out]
   exact hJ _ _ _ hJk (belowGr (Below.refl _ _) (by have:=hR.old.h;omega) _)
@[go_sem] theorem eg_words1 (args:Array Value) (w:World):(callFunc 243 args).run Tryz.prog w=.ok (.enter 243 args) w:=enters_of Tryz.func243 (by kernel_rfl) rfl args w
set_option maxRecDepth 512 in
theorem Words_at (s:ByteArray) (w:World) :
  Calls Tryz.prog 221 #[.string s] w λ e w'=>e=.returned (.func (.func 243) #[] #[.pointer (some ⟨w.heap.size,0,none⟩)])/\w'=w.alloc (.cells #[.string s] 9):=by
 go_enter Tryz.func221,Tryz.ntmps221
 go_wp2_with fail
 go_ret
 exact ⟨rfl,rfl⟩
end Go.Proofs.YtlfjdjndhcmliaaGreatDoor
namespace Go.Proofs.YtlfjdjndhcmliaaGreatDoor
open Go.RowKit Go.Sort
abbrev MM:Nat:=18446744073709551616
structure S4 where
 a:Nat
 b:Nat
 c:Nat
 d:Nat
deriving DecidableEq
def S4.cs (x:S4):Array Value:=#[.int .u64 x.a,.int .u64 x.b,.int .u64 x.c,.int .u64 x.d]
def S4.v (x:S4):Value:=.agg x.cs
def S4.ok (x:S4):Prop:=x.a < MM/\x.b < MM/\x.c < MM/\x.d < MM
def S4.step (x:S4) (w:Nat):S4 :=
 ⟨(x.a+w) % MM,(x.b+(x.a+w) % MM) % MM,(x.c+(x.b+(x.a+w) % MM) % MM) % MM,(x.d+(x.c+(x.b+(x.a+w) % MM) % MM) % MM) % MM⟩
theorem S4.step_ok (x:S4) (w:Nat):(x.step w).ok:=by
 refine ⟨?_,?_,?_,?_⟩ <;> exact Nat.mod_lt _ (by decide)
def sums (x:S4) (ws:List Nat):S4:=ws.foldl S4.step x
theorem sums_snoc (x:S4) (ws:List Nat) (w:Nat):sums x (ws++[w])=(sums x ws).step w:=by simp [sums]
theorem sums_ok {x:S4} (h:x.ok):∀ ws:List Nat,(sums x ws).ok
 | []=>h
 | w::ws=>sums_ok (x:=x.step w) (x.step_ok w) ws
theorem wrap_add (a b:Nat):IntKind.u64.wrap ((a:Int)+(b:Int))=(((a+b) % MM:Nat):Int):=by
 rw [IntKind.wrap_u64];simp [MM]
def zero4:S4:=⟨0,0,0,0⟩
theorem zero4_ok:zero4.ok:=by refine ⟨?_,?_,?_,?_⟩ <;> decide
attribute [local go_sem] Oper.semAt_some
theorem gr_heap_past (W W':World) (g:Gr) (D:Nat) (hs:W.heap.size=W'.heap.size) (hD:W.heap.size<=D):(gr W g).heap[D]?=(gr W' g).heap[D]?:=by
 simp only [gr,grow,redrawn]
 rw [Array.getElem?_append_right (by exact hD),Array.getElem?_append_right (by show W'.heap.size<=D;omega)]
 show g.os[D - W.heap.size]?=g.os[D - W'.heap.size]?
 rw [hs]
def nxt (p:S4 × Nat):Nat->S4 × Nat
 | 0=>(⟨(p.1.a+p.2) % MM,p.1.b,p.1.c,p.1.d⟩,(p.1.a+p.2) % MM)
 | 1=>(⟨p.1.a,(p.1.b+p.2) % MM,p.1.c,p.1.d⟩,(p.1.b+p.2) % MM)
 | 2=>(⟨p.1.a,p.1.b,(p.1.c+p.2) % MM,p.1.d⟩,(p.1.c+p.2) % MM)
 | _=>(⟨p.1.a,p.1.b,p.1.c,(p.1.d+p.2) % MM⟩,(p.1.d+p.2) % MM)
def prt (y:S4) (x:Nat):Nat->S4 × Nat
 | 0=>(y,x)
 | k+1=>nxt (prt y x k) k
theorem prt_four (y:S4) (x:Nat):(prt y x 4).1=y.step x:=rfl
def moreW (w:World) (s:ByteArray) (x:S4):World:=((w.alloc (.cells x.cs 48)).alloc (.cells zero4.cs 48)).alloc (.cells #[.string s] 9)
theorem moreW_size (w:World) (s:ByteArray) (x:S4):(moreW w s x).heap.size=w.heap.size+3:=by simp [moreW]
set_option maxRecDepth 512 in
theorem more_any (x:S4) (hx:x.ok) (s:ByteArray) (hs:s.size < 4611686018427387900) :
  Pure Tryz.prog 174 #[x.v,.string s] (sums x (wordsL (pad4 s))).v:=by
 intro w
 refine (callsIn_wide (n:=3)).1 ?_
 obtain ⟨a,b,c,d⟩:=x
 refine callsIn_of_wp_marks Tryz.func174 rfl trivial ?_ rfl
 simp only [Tryz.ntmps174,List.size_toArray,List.length_cons,List.length_nil,Nat.reduceAdd,Nat.reduceSub,Array.replicate_succ,Array.replicate_zero,List.push_toArray,List.append_toArray,List.nil_append,List.cons_append,S4.v,S4.cs]
 gi_wp2_with (refine ⟨trivial,?_⟩;gi_at_call 221;refine (callsIn_wide.2 (Words_at _ _)).mono ?_;rintro e w' ⟨rfl,rfl⟩)
 have hbw:∀ x:S4,Below w.heap.size w (moreW w s x):=λ x=>belowAlloc (belowAlloc (belowAlloc (Below.refl _ _) _) _) _
 have hW0:Hid ((((w.alloc (.cells #[.int .u64 (a:Int),.int .u64 (b:Int),.int .u64 (c:Int),.int .u64 (d:Int)] 48)).alloc (.cells #[.int .u64 0,.int .u64 0,.int .u64 0,.int .u64 0] 48)).alloc (.cells #[.string s] 9))=moreW w s ⟨a,b,c,d⟩):=rfl
 rw [hW0.out]
 refine wpIn_range_own (gf:=243) (lb:=#[.pointer (some ⟨w.heap.size+1+1,0,none⟩)]) rfl eg_words1
  (Words1_own s hs (w.heap.size+1+1) (moreW w s ⟨a,b,c,d⟩) (by rw [moreW_size];omega) (by simp [moreW,go_sem])) (Below.refl _ _) (λ _=>rfl)
  (λ pre W=>∃ g:Gr,W=gr (moreW w s (sums ⟨a,b,c,d⟩ pre)) g) (λ _ _ _=>False)
  (from_gr (λ pre=>moreW w s (sums ⟨a,b,c,d⟩ pre)) (λ _=>by rw [moreW_size,moreW_size])) (λ _=>from_pure _)
  (ex_gr _)
  (λ x=>{ tmps:=#[.agg #[.int .u64 (a:Int),.int .u64 (b:Int),.int .u64 (c:Int),.int .u64 (d:Int)],
     .string s,.pointer (some ⟨w.heap.size,0,none⟩),undef,.pointer (some ⟨w.heap.size+1,0,none⟩),.int .u64 (x:Int),undef,.string s,
     .func (.func 243) #[] #[.pointer (some ⟨w.heap.size+1+1,0,none⟩)],.int .u64 (x:Int),undef,
     undef,undef,undef,undef,undef,undef,undef,undef,undef,undef,undef,undef,undef],defers:=[] }) ?assign ?body ?done ?stop
 case assign =>
  intro l m x W K hK
  gi_wp2
  exact hK
 case body =>
  rintro l m pre x W ⟨g,rfl⟩ _
  have hfin:∀ W':World,(∃ g:Gr,W'=gr (moreW w s ((sums ⟨a,b,c,d⟩ pre).step x)) g)->∃ g:Gr,W'=gr (moreW w s (sums ⟨a,b,c,d⟩ (pre++[x]))) g:=λ W' h=>by rw [sums_snoc];exact h
  have HF:=Lib.hid hfin
  clear hfin
  generalize sums ⟨a,b,c,d⟩ pre=y at *
  obtain ⟨Y,hY⟩:∃ Y,y=Y:=⟨_,rfl⟩
  rw [hY] at HF ⊢
  clear hY
  gi_wp2
  gi_loopw [5,10] (λ v i wr=>∃ k:Nat,k<=4/\i=.int .i64 k/\v=.int .u64 ((prt Y x k).2:Int)/\wr=gr (moreW w s (prt Y x k).1) g)
   (λ _ i _=>4 - (intOf i).toNat)
  case atStart=>exact ⟨0,by omega,rfl,rfl,rfl⟩
  case round =>
   obtain ⟨k,hk,rfl,rfl,rfl⟩:=hrel
   obtain ⟨⟨⟨p0,p1,p2,p3⟩,q⟩,hp⟩:∃ p,prt Y x k=p:=⟨_,rfl⟩
   rw [hp]
   have hm:moreW w s ⟨p0,p1,p2,p3⟩=(((w.alloc (.cells #[.int .u64 (p0:Int),.int .u64 (p1:Int),.int .u64 (p2:Int),.int .u64 (p3:Int)] 48)).alloc (.cells #[.int .u64 0,.int .u64 0,.int .u64 0,.int .u64 0] 48)).alloc (.cells #[.string s] 9)):=rfl
   simp only []
   rw [hm]
   have HP:=Lib.hid hp
   clear hp hm
   rcases (show k=0\/k=1\/k=2\/k=3\/k=4 by omega) with rfl | rfl | rfl | rfl | rfl
   ·have e:prt Y x 1=(⟨(p0+q) % MM,p1,p2,p3⟩,(p0+q) % MM):=by rw [prt,HP.out];rfl
    have HE:=Lib.hid e
    clear e
    gi_wp2
    go_roundw
    case rel=>exact ⟨1,by omega,rfl,by rw [HE.out,wrap_add],by rw [HE.out,wrap_add];rfl⟩
    case measure=>simp [intOf]
   ·have e:prt Y x 2=(⟨p0,(p1+q) % MM,p2,p3⟩,(p1+q) % MM):=by rw [prt,HP.out];rfl
    have HE:=Lib.hid e
    clear e
    gi_wp2
    go_roundw
    case rel=>exact ⟨2,by omega,rfl,by rw [HE.out,wrap_add],by rw [HE.out,wrap_add];rfl⟩
    case measure=>simp [intOf]
   ·have e:prt Y x 3=(⟨p0,p1,(p2+q) % MM,p3⟩,(p2+q) % MM):=by rw [prt,HP.out];rfl
    have HE:=Lib.hid e
    clear e
    gi_wp2
    go_roundw
    case rel=>exact ⟨3,by omega,rfl,by rw [HE.out,wrap_add],by rw [HE.out,wrap_add];rfl⟩
    case measure=>simp [intOf]
   ·have e:prt Y x 4=(⟨p0,p1,p2,(p3+q) % MM⟩,(p3+q) % MM):=by rw [prt,HP.out];rfl
    have HE:=Lib.hid e
    clear e
    gi_wp2
    go_roundw
    case rel=>exact ⟨4,by omega,rfl,by rw [HE.out,wrap_add],by rw [HE.out,wrap_add];rfl⟩
    case measure=>simp [intOf]
   ·have e:⟨p0,p1,p2,p3⟩=Y.step x:=by rw [<-prt_four,HP.out]
    have hk4:Kept (moreW w s ⟨a,b,c,d⟩).heap.size (gr (moreW w s Y) g) (gr (moreW w s ⟨p0,p1,p2,p3⟩) g) :=
     ⟨by rw [gr_size,gr_size,moreW_size,moreW_size];omega,λ k hk _=>gr_heap_past _ _ g k (by rw [moreW_size,moreW_size]) (by rw [moreW_size] at hk ⊢;exact hk)⟩
    gi_wp2
    exact ⟨hk4,HF.out _ ⟨g,by rw [<-e];rfl⟩⟩
 case done =>
  rintro D ys W hD rfl ⟨g,rfl⟩ hK
  rw [moreW_size] at hD
  generalize sums ⟨a,b,c,d⟩ (wordsL (pad4 s))=z at *
  obtain ⟨z0,z1,z2,z3⟩:=z
  have hm:moreW w s ⟨z0,z1,z2,z3⟩=(((w.alloc (.cells #[.int .u64 (z0:Int),.int .u64 (z1:Int),.int .u64 (z2:Int),.int .u64 (z3:Int)] 48)).alloc (.cells #[.int .u64 0,.int .u64 0,.int .u64 0,.int .u64 0] 48)).alloc (.cells #[.string s] 9)):=rfl
  obtain ⟨W2,hW2⟩:∃ W2,(((w.alloc (.cells #[.int .u64 (z0:Int),.int .u64 (z1:Int),.int .u64 (z2:Int),.int .u64 (z3:Int)] 48)).alloc (.cells #[.int .u64 (z0:Int),.int .u64 (z1:Int),.int .u64 (z2:Int),.int .u64 (z3:Int)] 48)).alloc (.cells #[.string s] 9))=W2:=⟨_,rfl⟩
  have hs2:W2.heap.size=w.heap.size+3:=by rw [<-hW2];simp
  have hK2:(gr W2 g).heap[D]?=some (.deferred (some [])):=(gr_heap_past _ _ g D (by rw [hs2,moreW_size]) (by omega)).trans hK
  rw [hm]
  have HK:=Lib.hid hK2
  clear hK hK2 hm
  gi_wp2
  refine ⟨by simp,.inl ⟨_,_,rfl,run_takeDeferred HK.out,?_⟩⟩
  have hcell:((gr W2 g).putObj D (.deferred none)).heap[w.heap.size+1]?=some (.cells #[.int .u64 (z0:Int),.int .u64 (z1:Int),.int .u64 (z2:Int),.int .u64 (z3:Int)] 48 (0,0)):=by
   rw [World.putObj_heap_other (by omega),gr_heap _ _ (by omega),<- hW2,Below.heap_alloc _ _ _ (by simp)]
   have h:=World.alloc_heap_new (w.alloc (.cells #[.int .u64 (z0:Int),.int .u64 (z1:Int),.int .u64 (z2:Int),.int .u64 (z3:Int)] 48)) (.cells #[.int .u64 (z0:Int),.int .u64 (z1:Int),.int .u64 (z2:Int),.int .u64 (z3:Int)] 48)
   rwa [World.size_alloc] at h
  refine ⟨_,results_cell_row rfl _ _ (w.heap.size+1) 48 _ _ _ rfl hcell Tryz.underlying48 rfl (by kernel_rfl),rfl,?_⟩
  have hb2:Below w.heap.size w (gr W2 g):=by
   rw [<-hW2];(repeat' (first | (with_reducible exact Below.refl _ _) | (with_reducible refine belowGrU ?_ _) | (with_reducible refine belowAlloc ?_ _) | (with_reducible refine Below.setCell ?_ ?_ _) | (with_reducible refine Below.drew ?_) | (simp [go_sem];done) | (simp [go_sem];omega)))
  exact hb2.trans (below_put _ D _ _ (by omega) HK.out hb2.size)
 case stop =>
  rintro D c pre W _ _ h _
  exact h.elim
set_option maxRecDepth 512 in
theorem Sum_any (s:ByteArray) (hs:s.size < 4611686018427387900):Pure Tryz.prog 122 #[.string s] (sums zero4 (wordsL (pad4 s))).v:=by
 intro w
 have c:Pure Tryz.prog 174 #[.agg #[.int .u64 0,.int .u64 0,.int .u64 0,.int .u64 0],.string s] (sums zero4 (wordsL (pad4 s))).v:=more_any zero4 zero4_ok s hs
 generalize sums zero4 (wordsL (pad4 s))=z at c ⊢
 obtain ⟨z0,z1,z2,z3⟩:=z
 simp only [S4.v,S4.cs] at c ⊢
 go_enter Tryz.func122,Tryz.ntmps122
 go_wp2_with (go_at_call 174;with_reducible refine (c.at _).mono ?_;rintro e w' ⟨rfl,g,rfl⟩)
 have hcell:(gr (w.alloc (.cells #[.int .u64 (z0:Int),.int .u64 (z1:Int),.int .u64 (z2:Int),.int .u64 (z3:Int)] 48)) g).heap[w.heap.size]?=some (.cells #[.int .u64 (z0:Int),.int .u64 (z1:Int),.int .u64 (z2:Int),.int .u64 (z3:Int)] 48 (0,0)):=by
  rw [gr_heap _ _ (by simp)];exact World.alloc_heap_new _ _
 exact bodyPost_ret (results_cell_row rfl _ _ w.heap.size 48 _ _ _ rfl hcell Tryz.underlying48 rfl (by kernel_rfl)) rfl (Ret.mk rfl grown)
end Go.Proofs.YtlfjdjndhcmliaaGreatDoor
namespace Go.Proofs.YtlfjdjndhcmliaaGreatDoor
open Go.RowKit Go.Sort
inductive Plan where
 | d
 | q (l:List Nat) (n:Plan)
 | f (l:List Nat) (n:Plan)
 | x (l:List Nat) (n:Plan)
 | c (i:Nat) (n:Plan)
 | g (i:Nat) (n:Plan)
 | y (i j:Nat) (n m:Plan)
 | z (i j:Nat) (n m:Plan)
@[go_sem] def Cls (w w':World):Prop:=∃ p:Gr,w'=gr w p
def Nx (K:Act->World->Prop):Exit->Act->World->Prop
 | .normal,a,w=>K a w
 | _,_,_=>False
def pick (ops:List Oper):List Nat->List Oper
 | []=>[]
 | i::l=>(match ops[i]? with
  | some o=>[o]
  | none=>[])++pick ops l
def Anyw (_:World):Prop:=True
def tame:Op->Bool
 | .move _ | .assign _ | .pick .. | .build .. | .binOp .. | .unOp .. | .field .. | .fieldAddr .. | .index .. | .indexAddr .. | .extract ..=>true
 | _=>false
def calm:Op->Bool
 | .load .. | .slice .. | .lookup .. | .nilCheck _ | .convert .. | .makeInterface ..=>true
 | .call c=>match c.callee with
  | .builtin .len | .builtin .cap | .builtin .min | .builtin .max=>true
  | _=>false
 | o=>tame o
section
variable {P:Program} {ops:Array Oper} {md:Region.Mode} {Q:Exit->Act->World->Prop} {C:World->Prop}
def Plan.run (P:Program) (ops:List Oper) (Q:Exit->Act->World->Prop):Plan->(World->Prop)->Act->Prop
 | .d,C,a=>∀ w,C w->Q .normal a w
 | .q l n,C,a=>wpQuiet P ops.toArray C (n.run P ops Q C) (pick ops l) a
 | .f l n,C,a=>wpQuiet P ops.toArray Anyw (n.run P ops Q C) (pick ops l) a
 | .x l n,C,a=>∀ w,C w->wpList P ops.toArray (Nx λ a' w'=>n.run P ops Q (Cls w') a') (pick ops l) a w
 | .c i n,C,a=>match ops[i]? with
  | some o=>∃ v,(∀ w,C w->o.quietAt P a (Cls w) w v)/\n.run P ops Q C (a.put o.dst v)
  | none=>False
 | .g i n,C,a=>∀ w,C w->wpList P ops.toArray (Nx λ a' w'=>C w'/\n.run P ops Q (Cls w') a') (pick ops [i]) a w
 | .y i j n m,C,a=>(∀ w,C w->wpList P ops.toArray (Nx λ a' w'=>n.run P ops Q (Cls w') a') (pick ops [i]) a w) /\
   ∀ w,C w->wpList P ops.toArray (Nx λ a' w'=>C w'/\m.run P ops Q (Cls w') a') (pick ops [j]) a w
 | .z i j n m,C,a=>(∀ w,C w->wpList P ops.toArray (Nx λ a' w'=>C w'/\n.run P ops Q (Cls w') a') (pick ops [i]) a w) /\
   ∀ w,C w->wpList P ops.toArray (Nx λ a' w'=>C w'/\m.run P ops Q (Cls w') a') (pick ops [j]) a w
def forced (md:Region.Mode) (ops:Array Oper):Nat->Nat->Nat->Bool
 | 0,_,_=>false
 | f+1,j,i=>match ops[j]? with
  | some oj=>oj.after.any λ e=>Region.binds md e && (e.on == i || forced md ops f e.on i)
  | none=>false
def Plan.louds:Plan->List Nat
 | .d=>[]
 | .q _ n | .f _ n | .c _ n=>n.louds
 | .x l n=>l++n.louds
 | .g i n=>i::n.louds
 | .y i j n m | .z i j n m=>i::j::(n.louds++m.louds)
def Plan.gentles:Plan->List Nat
 | .d=>[]
 | .q _ n | .f _ n | .c _ n | .x _ n=>n.gentles
 | .g i n=>i::n.gentles
 | .y _ j n m=>j::(n.gentles++m.gentles)
 | .z i j n m=>i::j::(n.gentles++m.gentles)
def waitB (md:Region.Mode) (ops:Array Oper) (loud gentle:List Nat) (listed:Array Bool) (i:Nat):Bool :=
 loud.all λ j=>listed.getD j false || forced md ops ops.size j i || gentle.contains j
def opB (ops:Array Oper) (p:Op->Bool) (i:Nat):Bool:=((ops[i]?).map λ o=>p o.op).getD false
def okQ (md:Region.Mode) (ops:Array Oper) (loud gentle:List Nat) (hard:Bool) (k:Array Bool->Bool):List Nat->Array Bool->Bool
 | [],listed=>k listed
 | i::l,listed=>(Region.ready md ops listed).contains i && Region.free md ops listed i && !loud.contains i &&
   (if hard then waitB md ops loud [] listed i || waitB md ops loud gentle listed i && opB ops calm i else opB ops tame i) &&
   okQ md ops loud gentle hard k l (listed.setIfInBounds i true)
def okX (md:Region.Mode) (ops:Array Oper) (loud gentle:List Nat) (k:Array Bool->Bool):List Nat->Array Bool->Bool
 | [],listed=>k listed
 | i::l,listed=>decide (Region.ready md ops listed=[i]) && loud.contains i && !gentle.contains i && okX md ops loud gentle k l (listed.setIfInBounds i true)
def Plan.ok (md:Region.Mode) (ops:Array Oper) (loud gentle:List Nat):Plan->Array Bool->Bool
 | .d,listed=>(Region.ready md ops listed).isEmpty
 | .q l n,listed=>okQ md ops loud gentle true (n.ok md ops loud gentle) l listed
 | .f l n,listed=>okQ md ops loud gentle false (n.ok md ops loud gentle) l listed
 | .x l n,listed=>okX md ops loud gentle (n.ok md ops loud gentle) l listed
 | .c i n,listed=>(Region.ready md ops listed).contains i && Region.free md ops listed i && !loud.contains i && waitB md ops loud gentle listed i && opB ops (λ _=>true) i && ((ops[i]?).map λ o=>o.guard.isNone).getD false && n.ok md ops loud gentle (listed.setIfInBounds i true)
 | .g i n,listed=>decide (Region.ready md ops listed=[i]) && loud.contains i && n.ok md ops loud gentle (listed.setIfInBounds i true)
 | .y i j n m,listed=>(Region.ready md ops listed).all (λ k=>k == i || k == j) && !(Region.ready md ops listed).isEmpty && loud.contains i && loud.contains j && !gentle.contains i && n.ok md ops loud gentle (listed.setIfInBounds i true) && m.ok md ops loud gentle (listed.setIfInBounds j true)
 | .z i j n m,listed=>(Region.ready md ops listed).all (λ k=>k == i || k == j) && !(Region.ready md ops listed).isEmpty && loud.contains i && loud.contains j && n.ok md ops loud gentle (listed.setIfInBounds i true) && m.ok md ops loud gentle (listed.setIfInBounds j true)
def Closed (md:Region.Mode) (ops:Array Oper) (listed:Array Bool):Prop:=∀ (j:Nat) (oj:Oper),ops[j]?=some oj->listed.getD j false=true->∀ e∈oj.after,Region.binds md e=true->listed.getD e.on false=true
theorem Closed.set {listed:Array Bool} {i:Nat} (h:Closed md ops listed) (hi:i∈Region.ready md ops listed):Closed md ops (listed.setIfInBounds i true):=by
 obtain ⟨_,oi,hoi,hall⟩:=mem_ready.1 hi
 intro j oj hj hl e he hb
 by_cases hij:i=j
 ·subst hij
  obtain rfl:oj=oi:=Option.some.inj (hj.symm.trans hoi)
  exact getD_set_true (hall e he hb)
 ·rw [getD_set_ne false hij] at hl
  exact getD_set_true (h j oj hj hl e he hb)
theorem forced_deps {listed:Array Bool} (h:Closed md ops listed) {i:Nat}:∀ (f j:Nat) (oj:Oper),ops[j]?=some oj->forced md ops f j i=true->(∀ e∈oj.after,Region.binds md e=true->listed.getD e.on false=true)->listed.getD i false=true
 | 0,_,_,_,hf,_=>by cases hf
 | f+1,j,oj,hj,hf,hall=>by
  simp only [forced,hj] at hf
  obtain ⟨e,he,hb⟩:=Array.any_eq_true'.1 hf
  simp only [Bool.and_eq_true,Bool.or_eq_true,beq_iff_eq] at hb
  rcases hb.2 with h1 | h1
  ·rw [<-h1];exact hall e he hb.1
  ·have hl:=hall e he hb.1
   have hoe:∃ o,ops[e.on]?=some o:=by
    cases ho:ops[e.on]? with
    | some o=>exact ⟨o,rfl⟩
    | none=>cases f with
     | zero=>cases h1
     | succ f=>simp [forced,ho] at h1
   obtain ⟨oe,hoe⟩:=hoe
   exact forced_deps h f e.on oe hoe h1 (h e.on oe hoe hl)
def NoQ:Exit->Act->World->Prop:=λ _ _ _=>False
def GC (D:World->Prop):Prop:=∀ w w',D w->Cls w w'->D w'
open Classical in
def AnyP (P:Program) (md:Region.Mode) (ops:Array Oper) (loud gentle:List Nat) (Q:Exit->Act->World->Prop):Nat->(World->Prop)->Array Bool->Act->Prop
 | 0,C,listed,a=>Region.ready md ops listed=[]/\∀ w,C w->Q .normal a w
 | f+1,C,listed,a=>Region.ready md ops listed≠[]/\∀ i∈Region.ready md ops listed,
   if i∈loud then ∀ w,C w->wpOp P ops NoQ i (λ a' w'=>∃ D:World->Prop,D w'/\(i∈gentle->GC D/\∀ w,D w->C w)/\AnyP P md ops loud gentle Q f D (listed.setIfInBounds i true) a') a w
   else qOp P ops C i (AnyP P md ops loud gentle Q f C (listed.setIfInBounds i true)) a
theorem oper_noQ {o:Oper} {a:Act} {w:World} {K:Act->World->Prop} {Q Q':Exit->Act->World->Prop} (hq:∀ e a w,Q e a w->False) (h:o.wp P a w K Q):o.wp P a w K Q':=by
 unfold Oper.wp at *
 generalize (execOp a.eval o).run P w=r at *
 cases r with
 | ok n w' =>
  cases n <;> simp only [Oper.upon] at h ⊢ <;> first
   | exact h
   | exact Calls.mono h (λ e w'' he=>by
     cases e with
     | returned v=>exact he
     | panicked c=>exact (hq _ _ _ he).elim
     | outgrown=>obtain ⟨x,y,hxy⟩:=he;exact (hq _ _ _ hxy).elim)
 | halt x w'=>cases x <;> simp only [Oper.upon] at h ⊢ <;> exact (hq _ _ _ h).elim
theorem wpOp_noQ {i:Nat} {a:Act} {w:World} {K:Act->World->Prop} {Q':Exit->Act->World->Prop} (h:wpOp P ops NoQ i K a w):wpOp P ops Q' i K a w:=by
 unfold wpOp at *
 split
 ·simpa [*] using h
 ·rename_i o ho
  simp only [ho] at h
  split
  ·rename_i hw
   simp only [hw,if_true] at h
   rcases h with h | ⟨_,_,_,h⟩
   ·exact .inl (oper_noQ (λ _ _ _ h=>h) h)
   ·exact h.elim
  ·rename_i hw;simp only [hw] at h;exact h
theorem wpAny_of_anyP {loud gentle:List Nat}:∀ (f:Nat) (C:World->Prop) (listed:Array Bool) (a:Act) (w:World),C w->AnyP P md ops loud gentle Q f C listed a->wpAny P md ops Q f listed a w
 | 0,_,_,_,w,hw,h=>⟨h.1,h.2 w hw⟩
 | f+1,C,listed,a,w,hw,h=>⟨λ h0=>absurd h0 h.1,λ i hi=>by
   have h1:=h.2 i hi
   split at h1
   ·exact wpOp_noQ (wpOp_mono (λ a' w' ⟨D,hD,_,h'⟩=>wpAny_of_anyP f D _ a' w' hD h') (h1 w hw))
   ·exact wpOp_of_qOp hw (λ a' w' hw' h'=>wpAny_of_anyP f C _ a' w' hw' h') h1⟩
theorem qOp_put' {j:Nat} {oi oj:Oper} {v:Value} (hj:ops[j]?=some oj) (hap:oi.apart ops oj=true) (hsj:∀ cs b,oj.op≠.select cs b) {K Y:Act->Prop} {a:Act} (hY:∀ u,Y (a.put oj.dst u)) (h:qOp P ops C j K (a.put oi.dst v)) :
  qOp P ops C j (λ a'=>Y a'/\K (a'.put oi.dst v)) a:=by
 obtain ⟨h1,h2,h3⟩:=Oper.apart_spec hap
 unfold qOp at *
 simp only [hj] at *
 rw [wanted_put oj a oi.dst v h1] at h
 split
 ·rename_i hw
  simp only [hw,if_true] at h
  obtain ⟨u,hu,hn⟩:=h
  refine ⟨u,λ w hw'=>?_,hY u,by rw [<-Act.put_comm a v u h2];exact hn⟩
  have:=hu w hw'
  unfold Oper.quietAt at *
  rwa [execOp_put oj hsj a oi.dst v h1] at this
 ·rename_i hw
  simp only [hw] at h
  exact ⟨hY _,by rw [<-Act.put_comm a v undef h2];exact h⟩
theorem put_defer (a:Act) (x:Option Tmp) (v:Value) (l:List Deferred):({ a with defers:=l }:Act).put x v={ a.put x v with defers:=l }:=by cases x <;> rfl
theorem wpOp_put' {j:Nat} {oi oj:Oper} {v:Value} (hj:ops[j]?=some oj) (hap:oi.apart ops oj=true) (hsj:∀ cs b,oj.op≠.select cs b) {K:Act->World->Prop} {Y:Act->Prop} {a:Act} {w:World} (hY:∀ u l,Y (({ a with defers:=l }:Act).put oj.dst u)) (h:wpOp P ops NoQ j K (a.put oi.dst v) w) :
  wpOp P ops NoQ j (λ a' w'=>Y a'/\K (a'.put oi.dst v) w') a w:=by
 obtain ⟨h1,h2,h3⟩:=Oper.apart_spec hap
 unfold wpOp at *
 simp only [hj] at *
 rw [wanted_put oj a oi.dst v h1] at h
 split
 ·rename_i hw
  simp only [hw,if_true] at h
  refine .inl ?_
  replace h:=h.resolve_right λ ⟨_,_,_,h⟩=>h
  unfold Oper.wp at *
  rw [execOp_put oj hsj a oi.dst v h1] at h
  have key:∀ u w',K ((a.put oi.dst v).put oj.dst u) w'->Y (a.put oj.dst u)/\K ((a.put oj.dst u).put oi.dst v) w':=λ u w' hk=>⟨hY u a.defers,by rw [<-Act.put_comm a v u h2];exact hk⟩
  generalize hr:(execOp a.eval oj).run P w=r at *
  cases r with
  | ok n w' =>
   cases n <;> simp only [Oper.upon] at h ⊢ <;> first
    | exact key _ _ h
    | exact Calls.mono h (λ e w'' he=>by
      cases e with
      | returned v=>exact key _ _ he
      | panicked c=>exact he.elim
      | outgrown=>obtain ⟨x,y,hxy⟩:=he;exact hxy.elim)
    | exact Rows.mono h (λ _ _ he=>key _ _ he)
    | exact ⟨hY _ _,by
      rw [<-Act.put_comm _ v undef h2]
      have e:∀ l,({ a with defers:=l }:Act).put oi.dst v={ a.put oi.dst v with defers:=l }:=λ l=>put_defer a _ v l
      have e2:(a.put oi.dst v).defers=a.defers:=by cases oi.dst <;> rfl
      rw [e,<- e2];exact h⟩
  | halt x w'=>cases x <;> simp only [Oper.upon] at h ⊢ <;> exact h.elim
 ·rename_i hw
  simp only [hw] at h
  exact ⟨hY _ a.defers,by rw [<-Act.put_comm a v undef h2];exact h⟩
theorem yields_put {oi oj:Oper} {v:Value} {a:Act} (hsi:∀ cs b,oi.op≠.select cs b) (h3:∀ d,oj.dst=some d->d ∉ oi.looksAt ops) (hy:YieldsIn P ops C oi v a) (u:Value) (l:List Deferred):YieldsIn P ops C oi v (({ a with defers:=l }:Act).put oj.dst u):=by
 have h1:YieldsIn P ops C oi v ({ a with defers:=l }:Act):=hy.of_same rfl rfl
 exact h1.of_same (execOp_put oi hsi _ oj.dst u h3) (wanted_put oi _ oj.dst u h3)
def YieldsG (P:Program) (ops:Array Oper) (C:World->Prop) (o:Oper) (v:Value) (a:Act):Prop :=
 (Region.wanted o (yielded ops a.tmps)=true/\∀ w,C w->o.quietAt P a (Cls w) w v)\/(Region.wanted o (yielded ops a.tmps)=false/\v=undef)
theorem quietUpon_mono {C D:World->Prop} {w:World} {v:Value} {r:Result Next} (h:Oper.quietUpon P C w v r) (hm:∀ w',C w'->D w'):Oper.quietUpon P D w v r:=by
 cases r with
 | ok n w' =>
  cases n <;> first
   | exact h
   | exact ⟨h.1,h.2.mono λ e w'' ⟨he,hc⟩=>⟨he,hm _ hc⟩⟩
 | halt x w'=>exact h
theorem YieldsG.into {D:World->Prop} {o:Oper} {v:Value} {a:Act} (h:YieldsG P ops C o v a) (hm:∀ w,D w->C w) (hg:GC D):YieldsIn P ops D o v a :=
 h.imp (λ ⟨hw,h⟩=>⟨hw,λ w hd=>quietUpon_mono (h w (hm w hd)) λ _ h=>hg _ _ hd h⟩) id
theorem YieldsG.mono {D:World->Prop} {o:Oper} {v:Value} {a:Act} (h:YieldsG P ops C o v a) (hm:∀ w,D w->C w):YieldsG P ops D o v a :=
 h.imp (λ ⟨hw,h⟩=>⟨hw,λ w hd=>h w (hm w hd)⟩) id
theorem yieldsG_put {oi oj:Oper} {v:Value} {a:Act} (hsi:∀ cs b,oi.op≠.select cs b) (h3:∀ d,oj.dst=some d->d ∉ oi.looksAt ops) (hy:YieldsG P ops C oi v a) (u:Value) (l:List Deferred):YieldsG P ops C oi v (({ a with defers:=l }:Act).put oj.dst u):=by
 have e1:execOp (({ a with defers:=l }:Act).put oj.dst u).eval oi=execOp a.eval oi:=execOp_put oi hsi ({ a with defers:=l }:Act) oj.dst u h3
 have e2:Region.wanted oi (yielded ops (({ a with defers:=l }:Act).put oj.dst u).tmps)=Region.wanted oi (yielded ops a.tmps):=wanted_put oi ({ a with defers:=l }:Act) oj.dst u h3
 unfold YieldsG Oper.quietAt at *
 rw [e1,e2]
 exact hy
def Takes (P:Program) (md:Region.Mode) (ops:Array Oper) (loud gentle:List Nat) (C:World->Prop) (listed:Array Bool) (i:Nat) (oi:Oper) (v:Value) (a:Act):Prop :=
 YieldsIn P ops C oi v a/\(((∀ j∈loud,listed.getD j false=true\/forced md ops ops.size j i=true)\/∀ D:World->Prop,YieldsIn P ops D oi v a) \/
  (YieldsG P ops C oi v a/\∀ j∈loud,listed.getD j false=true\/forced md ops ops.size j i=true\/j∈gentle))
theorem anyP_take {loud gentle:List Nat} {i:Nat} {oi:Oper} {v:Value} (hi:ops[i]?=some oi) (hil:i ∉ loud) (hsel:∀ (j:Nat) (o:Oper) cs b,ops[j]?=some o->o.op≠.select cs b) :
  ∀ (f:Nat) (C:World->Prop) (listed:Array Bool) (a:Act),Closed md ops listed ->
   (∀ j oj,ops[j]?=some oj->j≠i->listed.getD j true=false->(∀ e∈oj.after,Region.binds md e=true->e.on≠i)->oi.apart ops oj=true) ->
   i∈Region.ready md ops listed->Takes P md ops loud gentle C listed i oi v a ->
   AnyP P md ops loud gentle Q f C (listed.setIfInBounds i true) (a.put oi.dst v)->AnyP P md ops loud gentle Q (f+1) C listed a:=by
 intro f
 induction f with
 | zero =>
  intro C listed a _ _ hr hy H
  refine ⟨λ h=>(by rw [h] at hr;cases hr),λ j hj=>?_⟩
  by_cases hji:j=i
  ·subst hji;rw [if_neg hil];exact hy.1.qOp hi H
  ·have:=ready_mono hj hji
   rw [H.1] at this
   cases this
 | succ f ih =>
  intro C listed a hcl hfree hr hy H
  refine ⟨λ h=>(by rw [h] at hr;cases hr),λ j hj=>?_⟩
  by_cases hji:j=i
  ·subst hji;rw [if_neg hil];exact hy.1.qOp hi H
  ·have h1:=H.2 j (ready_mono hj hji)
   obtain ⟨hjun,oj,hoj,hall⟩:=mem_ready.1 hj
   have hiun:=getD_both (mem_ready.1 hr).1
   have hnot:∀ e∈oj.after,Region.binds md e=true->e.on≠i:=λ e he hb heq=>by
    have h1:=hall e he hb
    rw [heq,hiun] at h1
    cases h1
   have hap:=hfree j oj hoj hji hjun hnot
   have h3:=(Oper.apart_spec hap).2.2
   have hsi:∀ cs b,oi.op≠.select cs b:=λ cs b=>hsel i oi cs b hi
   have hfree':∀ k ok,ops[k]?=some ok->k≠i->(listed.setIfInBounds j true).getD k true=false ->
     (∀ e∈ok.after,Region.binds md e=true->e.on≠i)->oi.apart ops ok=true:=λ k ok hk hki hun hno=>by
    refine hfree k ok hk hki ?_ hno
    by_cases hjk:j=k
    ·subst hjk;exact hjun
    ·rw [getD_set_ne true hjk] at hun;exact hun
   have hcl':=hcl.set hj
   have hr':=ready_mono hr (Ne.symm hji)
   have hset:∀ k,listed.getD k false=true->(listed.setIfInBounds j true).getD k false=true:=λ k h=>getD_set_true h
   have hnj:listed.getD j false=true\/forced md ops ops.size j i=true->False:=λ h=>by
    rcases h with h2 | h2
    ·rw [getD_both hjun] at h2;cases h2
    ·have:=forced_deps hcl _ j oj hoj h2 hall
     rw [hiun] at this;cases this
   by_cases hjl:j∈loud
   ·rw [if_pos hjl] at h1 ⊢
    intro w hw
    rcases hy.2 with (h | hall') | ⟨hyG,h⟩
    ·exact (hnj (h j hjl)).elim
    ·refine wpOp_mono (λ a' w' h5=>?_) (wpOp_put' (Y:=λ a'=>∀ D:World->Prop,YieldsIn P ops D oi v a') hoj hap (λ cs b=>hsel j oj cs b hoj) (λ u l D=>yields_put hsi h3 (hall' D) u l) (h1 w hw))
     obtain ⟨hy5,D,hD,hg,h5⟩:=h5
     refine ⟨D,hD,hg,ih D (listed.setIfInBounds j true) a' hcl' hfree' hr' ⟨hy5 _,.inl (.inr hy5)⟩ ?_⟩
     rw [Array.setIfInBounds_comm _ _ hji]
     exact h5
    ·have hjg:j∈gentle:=by
      rcases h j hjl with h2 | h2 | h2
      ·exact (hnj (.inl h2)).elim
      ·exact (hnj (.inr h2)).elim
      ·exact h2
     refine wpOp_mono (λ a' w' h5=>?_) (wpOp_put' (Y:=λ a'=>YieldsG P ops C oi v a') hoj hap (λ cs b=>hsel j oj cs b hoj) (λ u l=>yieldsG_put hsi h3 hyG u l) (h1 w hw))
     obtain ⟨hy5,D,hD,hg,h5⟩:=h5
     obtain ⟨hgc,hsub⟩:=hg hjg
     refine ⟨D,hD,hg,ih D (listed.setIfInBounds j true) a' hcl' hfree' hr' ⟨hy5.into hsub hgc,.inr ⟨hy5.mono hsub,λ k hk=>(h k hk).imp (hset k) id⟩⟩ ?_⟩
     rw [Array.setIfInBounds_comm _ _ hji]
     exact h5
   ·rw [if_neg hjl] at h1 ⊢
    refine qOp_mono (λ a' h5=>ih C (listed.setIfInBounds j true) a' hcl' hfree' hr' h5.1 ?_) (qOp_put' (Y:=λ a'=>Takes P md ops loud gentle C (listed.setIfInBounds j true) i oi v a') hoj hap (λ cs b=>hsel j oj cs b hoj) (λ u=>?_) h1)
    ·rw [Array.setIfInBounds_comm _ _ hji]
     exact h5.2
    ·refine ⟨yields_put hsi h3 hy.1 u a.defers,?_⟩
     rcases hy.2 with (h | hall') | ⟨hyG,h⟩
     ·exact .inl (.inl λ k hk=>(h k hk).imp (hset k) id)
     ·exact .inl (.inr λ D=>yields_put hsi h3 (hall' D) u a.defers)
     ·exact .inr ⟨yieldsG_put hsi h3 hyG u a.defers,λ k hk=>(h k hk).imp (hset k) id⟩
theorem value_enters {s:Sem Value} {w w':World} {f:FuncId} {args:Array Value}:(do pure (Next.value (<- s)):Sem Next).run P w≠.ok (.enter f args) w':=by
 rw [Sem.run_bind]
 cases s.run P w <;> simp [Result.andThen]
theorem bind_enters {α:Type} {s:Sem α} {k:α->Sem Next} {w w':World} {f:FuncId} {args:Array Value} (h:∀ a w,(k a).run P w≠.ok (.enter f args) w'):(s >>= k).run P w≠.ok (.enter f args) w':=by
 rw [Sem.run_bind]
 cases s.run P w <;> simp [Result.andThen,h]
theorem tame_enters {o:Oper} {ρ:Operand->Value} (h:tame o.op=true) (w:World) (f:FuncId) (args:Array Value) (w':World):(execOp ρ o).run P w≠.ok (.enter f args) w':=by
 unfold execOp
 cases ho:o.op <;> rw [ho] at h <;> first
  | exact absurd h Bool.false_ne_true
  | exact value_enters
  | exact bind_enters λ _ _ h=>nomatch h
  | exact λ h=>nomatch h
theorem panic_enters (w:World) (f:FuncId) (args:Array Value) (w':World):(runtimePanic .nilDeref:Sem Next).run P w≠.ok (.enter f args) w':=λ h=>nomatch h
theorem calm_enters {o:Oper} {ρ:Operand->Value} (h:calm o.op=true) (w:World) (f:FuncId) (args:Array Value) (w':World):(execOp ρ o).run P w≠.ok (.enter f args) w':=by
 by_cases ht:tame o.op=true
 ·exact tame_enters ht w f args w'
 unfold execOp
 cases ho:o.op with
 | nilCheck x =>
  dsimp only
  split
  ·exact panic_enters w f args w'
  ·exact panic_enters w f args w'
  ·exact panic_enters w f args w'
  ·split
   ·exact panic_enters w f args w'
   ·refine bind_enters λ p w=>bind_enters λ b w=>?_
    split
    ·exact bind_enters λ _ _ h=>nomatch h
    ·exact λ h=>nomatch h
   ·exact λ h=>nomatch h
  ·exact λ h=>nomatch h
 | call c =>
  obtain ⟨callee,cargs,ct⟩:=c
  cases callee with
  | builtin b =>
   cases b <;> rw [ho] at h <;> first
    | exact absurd h Bool.false_ne_true
    | exact value_enters
  | _=>rw [ho] at h;exact absurd h Bool.false_ne_true
 | _ =>
  rw [ho] at h ht
  first
   | exact absurd h Bool.false_ne_true
   | exact absurd rfl ht
   | exact value_enters
theorem yields_any {o:Oper} {v:Value} {a:Act} (ho:∀ (w:World) f args w',(execOp a.eval o).run P w≠.ok (.enter f args) w') (h:YieldsIn P ops Anyw o v a) (D:World->Prop):YieldsIn P ops D o v a:=by
 rcases h with ⟨hw,h⟩ | ⟨hw,h⟩
 ·refine .inl ⟨hw,λ w _=>?_⟩
  have h1:=h w trivial
  unfold Oper.quietAt at *
  cases hr:(execOp a.eval o).run P w with
  | ok n w' =>
   rw [hr] at h1
   cases n <;> first | exact h1 | exact (ho _ _ _ _ hr).elim
  | halt x w'=>rw [hr] at h1;exact h1
 ·exact .inr ⟨hw,h⟩
theorem yields_g {o:Oper} {v:Value} {a:Act} (ho:∀ (w:World) f args w',(execOp a.eval o).run P w≠.ok (.enter f args) w') (h:YieldsIn P ops C o v a):YieldsG P ops C o v a:=by
 rcases h with ⟨hw,h⟩ | ⟨hw,h⟩
 ·refine .inl ⟨hw,λ w hc=>?_⟩
  have h1:=h w hc
  unfold Oper.quietAt at *
  cases hr:(execOp a.eval o).run P w with
  | ok n w' =>
   rw [hr] at h1
   cases n <;> first | exact h1 | exact (ho _ _ _ _ hr).elim
  | halt x w'=>rw [hr] at h1;exact h1
 ·exact .inr ⟨hw,h⟩
theorem anyP_q {loud gentle:List Nat} (hsel:∀ (j:Nat) (o:Oper) cs b,ops[j]?=some o->o.op≠.select cs b) {hard:Bool} {D:World->Prop} (hD:hard=true->D=C) (hA:hard=false->D=Anyw) {k:Array Bool->Bool} {K:Act->Prop} {f:Nat}
  (hk:∀ listed a,Closed md ops listed->k listed=true->K a->AnyP P md ops loud gentle Q f C listed a):∀ (l:List Nat) (listed:Array Bool) (a:Act),Closed md ops listed->okQ md ops loud gentle hard k l listed=true ->
   wpQuiet P ops D K (pick ops.toList l) a->AnyP P md ops loud gentle Q (l.length+f) C listed a
 | [],listed,a,hcl,hB,h=>by rw [List.length_nil,Nat.zero_add];exact hk listed a hcl hB h
 | i::l,listed,a,hcl,hB,h=>by
  simp only [okQ,Bool.and_eq_true] at hB
  obtain ⟨⟨⟨⟨hr,hf⟩,hl⟩,hh⟩,hB'⟩:=hB
  have hr:i∈Region.ready md ops listed:=by simpa using hr
  obtain ⟨_,oi,hoi,_⟩:=mem_ready.1 hr
  have hoi':ops.toList[i]?=some oi:=by simpa using hoi
  simp only [pick,hoi',List.singleton_append] at h
  have hq:qOp P ops D i (wpQuiet P ops D K (pick ops.toList l)) a:=by unfold qOp;simp only [hoi];exact h
  obtain ⟨v,hy,hK⟩:=yieldsIn_of_qOp hoi hq
  have ht:Takes P md ops loud gentle C listed i oi v a:=by
   cases hard with
   | true =>
    obtain rfl:=hD rfl
    simp only [if_true,Bool.or_eq_true,Bool.and_eq_true,opB,hoi,Option.map_some,Option.getD_some] at hh
    refine ⟨hy,?_⟩
    rcases hh with hh | ⟨hh,hc⟩
    ·exact .inl (.inl λ j hj=>by simpa using List.all_eq_true.1 hh j hj)
    ·exact .inr ⟨yields_g (calm_enters hc) hy,λ j hj=>by simpa [or_assoc] using List.all_eq_true.1 hh j hj⟩
   | false =>
    obtain rfl:=hA rfl
    have ha:∀ D:World->Prop,YieldsIn P ops D oi v a:=λ D=>yields_any (tame_enters (by simpa [opB,hoi] using hh)) hy D
    exact ⟨ha C,.inl (.inr ha)⟩
  rw [List.length_cons,show l.length+1+f=(l.length+f)+1 by omega]
  exact anyP_take hoi (by simpa using hl) hsel _ C listed a hcl (Region.free_spec hoi hf) hr ht (anyP_q hsel hD hA hk l _ _ (hcl.set hr) hB' hK)
theorem oper_nx {o:Oper} {a:Act} {w:World} {K:Act->World->Prop} {K':Act->World->Prop} (h:o.wp P a w K (Nx K')):o.wp P a w K NoQ:=by
 unfold Oper.wp at *
 generalize (execOp a.eval o).run P w=r at *
 cases r with
 | ok n w' =>
  cases n <;> simp only [Oper.upon] at h ⊢ <;> first
   | exact h
   | exact Calls.mono h (λ e w'' he=>by
     cases e with
     | returned v=>exact he
     | panicked c=>exact he.elim
     | outgrown=>obtain ⟨x,y,hxy⟩:=he;exact hxy.elim)
 | halt x w'=>cases x <;> simp only [Oper.upon] at h ⊢ <;> exact h.elim
theorem wpOp_of_list {K:Act->World->Prop} {o:Oper} {i:Nat} {a:Act} {w:World} {rest:List Oper} (hi:ops[i]?=some o) (h:wpList P ops (Nx K) (o::rest) a w):wpOp P ops NoQ i (wpList P ops (Nx K) rest) a w:=by
 unfold wpOp
 simp only [hi]
 unfold wpList at h
 split
 ·rename_i hw
  rw [if_pos hw] at h
  exact .inl (oper_nx (h.resolve_right λ ⟨_,_,_,h⟩=>h.elim))
 ·rename_i hw
  rw [if_neg hw] at h
  exact h
theorem anyP_x {loud gentle:List Nat} {K:Act->World->Prop} {k:Array Bool->Bool} {f:Nat} (hk:∀ listed a w,Closed md ops listed->k listed=true->K a w->∃ D:World->Prop,D w/\AnyP P md ops loud gentle Q f D listed a) :
  ∀ (l:List Nat) (C:World->Prop) (listed:Array Bool) (a:Act),l≠[]->Closed md ops listed->okX md ops loud gentle k l listed=true->(∀ w,C w->wpList P ops (Nx K) (pick ops.toList l) a w)->AnyP P md ops loud gentle Q (l.length+f) C listed a:=by
 intro l
 induction l with
 | nil=>intro _ _ _ h;exact absurd rfl h
 | cons i l ih =>
  intro C listed a _ hcl hB h
  simp only [okX,Bool.and_eq_true,decide_eq_true_eq] at hB
  obtain ⟨⟨⟨hr,hl⟩,hng⟩,hB'⟩:=hB
  have hng:i ∉ gentle:=by simpa using hng
  have hri:i∈Region.ready md ops listed:=by rw [hr];simp
  obtain ⟨_,oi,hoi,_⟩:=mem_ready.1 hri
  have hoi':ops.toList[i]?=some oi:=by simpa using hoi
  rw [List.length_cons,show l.length+1+f=(l.length+f)+1 by omega]
  refine ⟨by rw [hr];simp,λ j hj=>?_⟩
  obtain rfl:j=i:=by rw [hr] at hj;simpa using hj
  rw [if_pos (by simpa using hl)]
  intro w hw
  have h1:=h w hw
  simp only [pick,hoi',List.singleton_append] at h1
  refine wpOp_mono (λ a' w' h2=>?_) (wpOp_of_list hoi h1)
  cases l with
  | nil=>rw [List.length_nil,Nat.zero_add];obtain ⟨D,hD,h3⟩:=hk _ a' w' (hcl.set hri) hB' h2;exact ⟨D,hD,λ h=>absurd h hng,h3⟩
  | cons i' l' =>
   exact ⟨(·=w'),rfl,λ h=>absurd h hng,ih _ _ a' (by simp) (hcl.set hri) hB' λ w'' hw''=>by rw [hw''];exact h2⟩
def Plan.size:Plan->Nat
 | .d=>0
 | .q l n | .f l n | .x l n=>l.length+n.size
 | .c _ n | .g _ n | .y _ _ n _ | .z _ _ n _=>n.size+1
def Plan.fits:Plan->Bool
 | .d=>true
 | .q _ n | .f _ n | .c _ n | .g _ n=>n.fits
 | .x l n=>!l.isEmpty && n.fits
 | .y _ _ n m | .z _ _ n m=>n.fits && m.fits && decide (n.size=m.size)
theorem cls_self (w:World):Cls w w:=⟨⟨w.drawn,#[]⟩,by simp [gr,grow,redrawn]⟩
theorem gc_cls (w:World):GC (Cls w):=λ _ _ ⟨p,hp⟩ ⟨p',hp'⟩=>⟨p.seq p',by rw [hp',hp,gr_gr]⟩
theorem anyP_of_plan {loud gentle:List Nat} (hsel:∀ (j:Nat) (o:Oper) cs b,ops[j]?=some o->o.op≠.select cs b):∀ (t:Plan) (C:World->Prop) (listed:Array Bool) (a:Act),GC C->t.fits=true->Closed md ops listed->t.ok md ops loud gentle listed=true->t.run P ops.toList Q C a ->
  AnyP P md ops loud gentle Q t.size C listed a
 | .d,C,listed,a,_,_,_,hB,h=>⟨by simpa [Plan.ok] using hB,h⟩
 | .q l n,C,listed,a,hC,hf,hcl,hB,h=>anyP_q (hard:=true) hsel (λ _=>rfl) (λ h=>by cases h) (λ listed' a' hc hB' h'=>anyP_of_plan hsel n C listed' a' hC hf hc hB' h') l listed a hcl hB (by simpa [Plan.run] using h)
 | .f l n,C,listed,a,hC,hf,hcl,hB,h=>anyP_q (hard:=false) hsel (λ h=>by cases h) (λ _=>rfl) (λ listed' a' hc hB' h'=>anyP_of_plan hsel n C listed' a' hC hf hc hB' h') l listed a hcl hB (by simpa [Plan.run] using h)
 | .x l n,C,listed,a,hC,hf,hcl,hB,h=>by
  simp only [Plan.fits,Bool.and_eq_true,Bool.not_eq_true',List.isEmpty_eq_false_iff] at hf
  exact anyP_x (λ listed' a' w' hc hB' h'=>⟨Cls w',cls_self w',anyP_of_plan hsel n (Cls w') listed' a' (gc_cls _) hf.2 hc hB' h'⟩) l C listed a hf.1 hcl hB (by simpa [Plan.run] using h)
 | .c i n,C,listed,a,hC,hf,hcl,hB,h=>by
  simp only [Plan.ok,Bool.and_eq_true] at hB
  obtain ⟨⟨⟨⟨⟨⟨hr,hfr⟩,hl⟩,hw⟩,_⟩,hgd⟩,hn⟩:=hB
  have hr:i∈Region.ready md ops listed:=by simpa using hr
  obtain ⟨_,oi,hoi,_⟩:=mem_ready.1 hr
  have hoi':ops.toList[i]?=some oi:=by simpa using hoi
  simp only [Plan.run,hoi'] at h
  obtain ⟨v,hv,h⟩:=h
  have hg:oi.guard=none:=by simpa [hoi] using hgd
  have hwn:Region.wanted oi (yielded ops a.tmps)=true:=by simp [Region.wanted,hg]
  have hyG:YieldsG P ops C oi v a:=.inl ⟨hwn,hv⟩
  exact anyP_take hoi (by simpa using hl) hsel _ C listed a hcl (Region.free_spec hoi hfr) hr ⟨hyG.into (λ _ h=>h) hC,.inr ⟨hyG,λ j hj=>by simpa [or_assoc] using List.all_eq_true.1 hw j hj⟩⟩ (anyP_of_plan hsel n C _ _ hC hf (hcl.set hr) hn h)
 | .g i n,C,listed,a,hC,hf,hcl,hB,h=>by
  simp only [Plan.ok,Bool.and_eq_true,decide_eq_true_eq] at hB
  obtain ⟨⟨hr,hl⟩,hn⟩:=hB
  have hri:i∈Region.ready md ops listed:=by rw [hr];simp
  obtain ⟨_,oi,hoi,_⟩:=mem_ready.1 hri
  have hoi':ops.toList[i]?=some oi:=by simpa using hoi
  refine ⟨by rw [hr];simp,λ j hj=>?_⟩
  obtain rfl:j=i:=by rw [hr] at hj;simpa using hj
  rw [if_pos (by simpa using hl)]
  intro w hw
  have h1:=h w hw
  simp only [pick,hoi',List.append_nil] at h1
  refine wpOp_mono (λ a' w' hh=>?_) (wpOp_of_list hoi (by simpa using h1))
  obtain ⟨h2,h3⟩:C w'/\n.run P ops.toList Q (Cls w') a':=hh
  exact ⟨Cls w',cls_self w',λ _=>⟨gc_cls _,λ w'' h=>hC _ _ h2 h⟩,anyP_of_plan hsel n (Cls w') _ a' (gc_cls _) hf (hcl.set hri) hn h3⟩
 | .y i j n m,C,listed,a,hC,hf,hcl,hB,h=>by
  simp only [Plan.fits,Bool.and_eq_true,decide_eq_true_eq] at hf
  simp only [Plan.ok,Bool.and_eq_true,Bool.not_eq_true',List.isEmpty_eq_false_iff] at hB
  obtain ⟨⟨⟨⟨⟨⟨hr,hne⟩,hi⟩,hj⟩,hig⟩,hn⟩,hm⟩:=hB
  have hig:i ∉ gentle:=by simpa using hig
  refine ⟨hne,λ k hk=>?_⟩
  obtain ⟨_,ok,hok,_⟩:=mem_ready.1 hk
  have hok':ops.toList[k]?=some ok:=by simpa using hok
  have hkij:k=i\/k=j:=by simpa using List.all_eq_true.1 hr k hk
  rcases hkij with rfl | rfl
  ·rw [if_pos (by simpa using hi)]
   intro w hw
   have h1:=h.1 w hw
   simp only [pick,hok',List.append_nil] at h1
   exact wpOp_mono (λ a' w' h2=>⟨Cls w',cls_self w',λ h=>absurd h hig,anyP_of_plan hsel n (Cls w') _ a' (gc_cls _) hf.1.1 (hcl.set hk) hn h2⟩) (wpOp_of_list hok (by simpa using h1))
  ·rw [if_pos (by simpa using hj)]
   intro w hw
   have h1:=h.2 w hw
   simp only [pick,hok',List.append_nil] at h1
   refine wpOp_mono (λ a' w' hh=>?_) (wpOp_of_list hok (by simpa using h1))
   obtain ⟨h2,h3⟩:C w'/\m.run P ops.toList Q (Cls w') a':=hh
   refine ⟨Cls w',cls_self w',λ _=>⟨gc_cls _,λ w'' h=>hC _ _ h2 h⟩,?_⟩
   have:=anyP_of_plan hsel m (Cls w') _ a' (gc_cls _) hf.1.2 (hcl.set hk) hm h3
   rwa [<-hf.2] at this
 | .z i j n m,C,listed,a,hC,hf,hcl,hB,h=>by
  simp only [Plan.fits,Bool.and_eq_true,decide_eq_true_eq] at hf
  simp only [Plan.ok,Bool.and_eq_true,Bool.not_eq_true',List.isEmpty_eq_false_iff] at hB
  obtain ⟨⟨⟨⟨⟨hr,hne⟩,hi⟩,hj⟩,hn⟩,hm⟩:=hB
  refine ⟨hne,λ k hk=>?_⟩
  obtain ⟨_,ok,hok,_⟩:=mem_ready.1 hk
  have hok':ops.toList[k]?=some ok:=by simpa using hok
  have hkij:k=i\/k=j:=by simpa using List.all_eq_true.1 hr k hk
  rcases hkij with rfl | rfl
  ·rw [if_pos (by simpa using hi)]
   intro w hw
   have h1:=h.1 w hw
   simp only [pick,hok',List.append_nil] at h1
   refine wpOp_mono (λ a' w' hh=>?_) (wpOp_of_list hok (by simpa using h1))
   obtain ⟨h2,h3⟩:C w'/\n.run P ops.toList Q (Cls w') a':=hh
   exact ⟨Cls w',cls_self w',λ _=>⟨gc_cls _,λ w'' h=>hC _ _ h2 h⟩,anyP_of_plan hsel n (Cls w') _ a' (gc_cls _) hf.1.1 (hcl.set hk) hn h3⟩
  ·rw [if_pos (by simpa using hj)]
   intro w hw
   have h1:=h.2 w hw
   simp only [pick,hok',List.append_nil] at h1
   refine wpOp_mono (λ a' w' hh=>?_) (wpOp_of_list hok (by simpa using h1))
   obtain ⟨h2,h3⟩:C w'/\m.run P ops.toList Q (Cls w') a':=hh
   refine ⟨Cls w',cls_self w',λ _=>⟨gc_cls _,λ w'' h=>hC _ _ h2 h⟩,?_⟩
   have:=anyP_of_plan hsel m (Cls w') _ a' (gc_cls _) hf.1.2 (hcl.set hk) hm h3
   rwa [<-hf.2] at this
theorem wp_region_planC {id:Nat} {a:Act} {w:World} {l:List Oper} (C:World->Prop) (t:Plan) (hC:GC C) (h0:C w.drew) (hm:P.follows .mixedOrders=true) (hB:(Region.noSelect l.toArray && t.fits && decide (t.size=l.length) && t.ok .any l.toArray t.louds t.gentles (Array.replicate l.length false))=true)
  (h:t.run P l Q C a):(Code.region id l.toArray true).wp P Q a w:=by
 simp only [Bool.and_eq_true,decide_eq_true_eq] at hB
 obtain ⟨⟨⟨hs,hf⟩,hz⟩,hk⟩:=hB
 refine wp_region_any hm (wpAny_of_anyP (loud:=t.louds) (gentle:=t.gentles) _ C _ _ _ h0 ?_)
 have:=anyP_of_plan (md:=.any) (Q:=Q) (Region.noSelect_spec hs) t C (Array.replicate l.length false) a hC hf (λ j oj _ hl=>by rw [getD_replicate_false] at hl;cases hl) hk (by simpa using h)
 rw [hz] at this
 simpa using this
theorem wp_region_plan {id:Nat} {a:Act} {w:World} {l:List Oper} (t:Plan) (hm:P.follows .mixedOrders=true) (hB:(Region.noSelect l.toArray && t.fits && decide (t.size=l.length) && t.ok .any l.toArray t.louds t.gentles (Array.replicate l.length false))=true)
  (h:t.run P l Q (Cls w) a):(Code.region id l.toArray true).wp P Q a w :=
 wp_region_planC (Cls w) t (gc_cls w) ⟨⟨w.drawn+1,#[]⟩,by simp only [gr,grow_empty];rfl⟩ hm hB h
theorem wp_region_plan2 {id:Nat} {a:Act} {w:World} {g:Gr} {l:List Oper} (t:Plan) (hm:P.follows .mixedOrders=true) (hB:(Region.noSelect l.toArray && t.fits && decide (t.size=l.length) && t.ok .any l.toArray t.louds t.gentles (Array.replicate l.length false))=true)
  (h:t.run P l Q (Cls w) a):(Code.region id l.toArray true).wp P Q a (gr w g) :=
 wp_region_planC (Cls w) t (gc_cls w) ⟨g.drawn,rfl⟩ hm hB h
end
theorem gZ {α:Type} {a:α} {l:List α}:(a::l)[0]?=some a:=rfl
theorem gS {α:Type} {a:α} {l:List α} {i:Nat}:(a::l)[i+1]?=l[i]?:=rfl
theorem gA {α:Type} {a:α} {l m:List α}:a::l++m=a::(l++m):=rfl
theorem gN {α:Type} {l:List α}:[]++l=l:=rfl
section
variable {P:Program} {Q:Exit->Act->World->Prop} {id:Nat} {a:Act} {w:World} {g:Gr} {l:List Oper}
theorem pl1 (t:Plan) (h:t.run P l Q (Cls w) a) (hm:P.follows .mixedOrders=true:=by kernel_rfl) (hB:(Region.noSelect l.toArray && t.fits && decide (t.size=l.length) && t.ok .any l.toArray t.louds t.gentles (Array.replicate l.length false))=true:=by kernel_rfl):(Code.region id l.toArray true).wp P Q a w:=wp_region_plan t hm hB h
theorem pl2 (t:Plan) (h:t.run P l Q (Cls w) a) (hm:P.follows .mixedOrders=true:=by kernel_rfl) (hB:(Region.noSelect l.toArray && t.fits && decide (t.size=l.length) && t.ok .any l.toArray t.louds t.gentles (Array.replicate l.length false))=true:=by kernel_rfl):(Code.region id l.toArray true).wp P Q a (gr w g):=wp_region_plan2 t hm hB h
end
end Go.Proofs.YtlfjdjndhcmliaaGreatDoor
