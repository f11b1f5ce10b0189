/- WholeGeoms, part 3. -/
import Derived.Test.YtlfjdjndhcmliaaGreatDoorA02
set_option maxRecDepth 100000
set_option maxHeartbeats 4000000
set_option linter.all false
namespace Go.Proofs.YtlfjdjndhcmliaaGreatDoor
open Go.RowKit Go.Sort
structure Nd where
 size:Int
 root:Pt
def Nd.cs (n:Nd):Array Value:=#[.int .i64 n.size]++n.root.cs
def cs4 (l:Nat->Pt):Array Value:=(l 0).cs++(l 1).cs++(l 2).cs++(l 3).cs
theorem Pt.cs_size (p:Pt):p.cs.size=12:=rfl
theorem Nd.cs_size (n:Nd):n.cs.size=13:=rfl
theorem cs4_size (l:Nat->Pt):(cs4 l).size=48:=by simp [cs4,Array.size_append,Pt.cs_size]
section
variable (p:Pt) (n:Nd)
@[go_sem] theorem ptc0:p.cs[0]?=some (.int .i64 p.ag):=rfl
@[go_sem] theorem ptc1:p.cs[1]?=some (.int .i64 p.aa):=rfl
@[go_sem] theorem ptc2:p.cs[2]?=some (.int .i64 p.bg):=rfl
@[go_sem] theorem ptc3:p.cs[3]?=some (.int .i64 p.ba):=rfl
@[go_sem] theorem ptc4:p.cs[4]?=some (.bool p.two):=rfl
@[go_sem] theorem ptc5:p.cs[5]?=some (.int .i64 p.size):=rfl
@[go_sem] theorem ptc6:p.cs[6]?=some (.int .i64 p.level):=rfl
@[go_sem] theorem ptc7:p.cs[7]?=some (.int .i64 p.birth):=rfl
@[go_sem] theorem ptc8:p.cs[8]?=some (.int .u64 p.sum.a):=rfl
@[go_sem] theorem ptc9:p.cs[9]?=some (.int .u64 p.sum.b):=rfl
@[go_sem] theorem ptc10:p.cs[10]?=some (.int .u64 p.sum.c):=rfl
@[go_sem] theorem ptc11:p.cs[11]?=some (.int .u64 p.sum.d):=rfl
@[go_sem] theorem ndc0:n.cs[0]?=some (.int .i64 n.size):=rfl
@[go_sem] theorem ndc5:n.cs[5]?=some (.bool n.root.two):=rfl
@[go_sem] theorem ndc6:n.cs[6]?=some (.int .i64 n.root.size):=rfl
@[go_sem] theorem ndc7:n.cs[7]?=some (.int .i64 n.root.level):=rfl
end
class SubAt (b o:Nat) (cs:outParam (Array Value)) (z:Nat) (W:World):Prop where
 size:cs.size=z
 old:Old b W
 cell:∀ j v,cs.toList[j]?=some v->W.cell? ⟨b,o+j,none⟩=some v
instance subGr (b o z:Nat) (cs:Array Value) (W:World) (g:Gr) [h:SubAt b o cs z W]:SubAt b o cs z (gr W g):=by
 haveI:=h.old
 exact ⟨h.size,ii,λ j v e=>(cell_gr ..).trans (h.cell j v e)⟩
instance subMd (b o z:Nat) (cs:Array Value) (W:World) (h':Hl) (c:World) [h:SubAt b o cs z W] [k:Out b h']:SubAt b o cs z (md W h' c):=by
 haveI:=h.old
 exact ⟨h.size,ii,λ j v e=>(cell_md ..).trans (h.cell j v e)⟩
instance subAlloc (b o z:Nat) (cs:Array Value) (W:World) (ob:Obj) [h:SubAt b o cs z W]:SubAt b o cs z (W.alloc ob):=by
 haveI:=h.old
 exact ⟨h.size,ii,λ j v e=>(cell_past ..).trans (h.cell j v e)⟩
theorem sub_of {W:World} {b o z:Nat} {X cs:Array Value} {t:TypeId} [k:SizeIs W b] (hz:cs.size=z) (h:∀ j v,cs.toList[j]?=some v->X[o+j]?=some v):SubAt b o cs z (W.alloc (.cells X t)) :=
 ⟨hz,ii,λ j v e=>by rw [cell_at];exact h j v e⟩
instance subPt (W:World) (b:Nat) (p:Pt) (t:TypeId) [k:SizeIs W b]:SubAt b 0 p.cs 12 (W.alloc (.cells p.cs t)):=sub_of rfl λ j v e=>by rw [Nat.zero_add];simpa using e
instance subNd (W:World) (b:Nat) (n:Nd) (t:TypeId) [k:SizeIs W b]:SubAt b 0 n.cs 13 (W.alloc (.cells n.cs t)):=sub_of rfl λ j v e=>by rw [Nat.zero_add];simpa using e
instance subNdR (W:World) (b:Nat) (n:Nd) (t:TypeId) [k:SizeIs W b]:SubAt b 1 n.root.cs 12 (W.alloc (.cells n.cs t)):=sub_of rfl λ j v e=>by
 unfold Nd.cs
 rw [Array.getElem?_append_right (by simp)]
 simpa using e
instance sub4 (W:World) (b:Nat) (l:Nat->Pt) (t:TypeId) [k:SizeIs W b]:SubAt b 0 (cs4 l) 48 (W.alloc (.cells (cs4 l) t)):=sub_of (cs4_size l) λ j v e=>by rw [Nat.zero_add];simpa using e
theorem cs4_at (l:Nat->Pt) (k:Nat) (hk:k < 4) (j:Nat) (v:Value) (e:(l k).cs.toList[j]?=some v):(cs4 l)[12*k+j]?=some v:=by
 have hj:j < 12:=by
  have:=(List.getElem?_eq_some_iff.1 e).1
  rwa [Array.length_toList,Pt.cs_size] at this
 have e:(l k).cs[j]?=some v:=by simpa using e
 match k,hk with
 | 0,_=>unfold cs4;rw [Array.getElem?_append_left (by simp [Pt.cs_size];omega),Array.getElem?_append_left (by simp [Pt.cs_size];omega),Array.getElem?_append_left (by simp [Pt.cs_size];omega)];simpa using e
 | 1,_=>unfold cs4;rw [Array.getElem?_append_left (by simp [Pt.cs_size];omega),Array.getElem?_append_left (by simp [Pt.cs_size];omega),Array.getElem?_append_right (by simp [Pt.cs_size])];simpa [Pt.cs_size] using e
 | 2,_=>unfold cs4;rw [Array.getElem?_append_left (by simp [Pt.cs_size];omega),Array.getElem?_append_right (by simp [Pt.cs_size])];simpa [Pt.cs_size] using e
 | 3,_=>unfold cs4;rw [Array.getElem?_append_right (by simp [Pt.cs_size])];simpa [Pt.cs_size] using e
instance sub40 (W:World) (b:Nat) (l:Nat->Pt) (t:TypeId) [k:SizeIs W b]:SubAt b 0 (l 0).cs 12 (W.alloc (.cells (cs4 l) t)):=sub_of rfl λ j v e=>cs4_at l 0 (by omega) j v e
instance sub41 (W:World) (b:Nat) (l:Nat->Pt) (t:TypeId) [k:SizeIs W b]:SubAt b 12 (l 1).cs 12 (W.alloc (.cells (cs4 l) t)):=sub_of rfl λ j v e=>cs4_at l 1 (by omega) j v e
instance sub42 (W:World) (b:Nat) (l:Nat->Pt) (t:TypeId) [k:SizeIs W b]:SubAt b 24 (l 2).cs 12 (W.alloc (.cells (cs4 l) t)):=sub_of rfl λ j v e=>cs4_at l 2 (by omega) j v e
instance sub43 (W:World) (b:Nat) (l:Nat->Pt) (t:TypeId) [k:SizeIs W b]:SubAt b 36 (l 3).cs 12 (W.alloc (.cells (cs4 l) t)):=sub_of rfl λ j v e=>cs4_at l 3 (by omega) j v e
theorem run_loadSub {P:Program} (W:World) (b o z:Nat) (cs:Array Value) (t:TypeId) (d:TypeDesc) [h:SubAt b o cs z W] (hu:P.underlying t=some d) (hd:(match d with | .struct _ | .array _ _=>true | _=>false)=true) (hi:(P.info? t).map (·.size)=some z) :
  (Instr.loadAt t (.pointer (some ⟨b,o,none⟩))).run P W=.ok (.agg cs) W:=by
 have hl:(loadCells ⟨b,o,none⟩ cs.toList.length).run P W=.ok cs.toList.toArray W :=
  run_loadCells_list (P:=P) W ⟨b,o,none⟩ cs.toList (λ j v e=>by
   have hadd:(⟨b,o,none⟩:Addr).add j=⟨b,o+j,none⟩:=by unfold Addr.add;split <;> simp_all
   rw [hadd];exact h.cell j v e)
 cases hq:P.info? t with
 | none=>simp [hq] at hi
 | some i =>
  have hs:i.size=cs.toList.length:=by rw [hq] at hi;rw [Array.length_toList,h.size];simpa using hi
  rw [<-hs] at hl
  cases d <;> simp at hd <;> simp [Instr.loadAt,loadVar,isAgg,run_underlying hu,sizeOf,typeInfo,hq,hl,Instr.sureAddr]
@[go_sem ↓] theorem load_pt (W:World) (b o:Nat) (cs:Array Value) [h:SubAt b o cs 12 W]:(Instr.loadAt 50 (.pointer (some ⟨b,o,none⟩))).run Tryz.prog W=.ok (.agg cs) W :=
 run_loadSub W b o 12 cs _ _ Tryz.underlying50 rfl (by kernel_rfl)
@[go_sem ↓] theorem load_nd (W:World) (b o:Nat) (cs:Array Value) [h:SubAt b o cs 13 W]:(Instr.loadAt 52 (.pointer (some ⟨b,o,none⟩))).run Tryz.prog W=.ok (.agg cs) W :=
 run_loadSub W b o 13 cs _ _ Tryz.underlying52 rfl (by kernel_rfl)
@[go_sem ↓] theorem load_4 (W:World) (b o:Nat) (cs:Array Value) [h:SubAt b o cs 48 W]:(Instr.loadAt 265 (.pointer (some ⟨b,o,none⟩))).run Tryz.prog W=.ok (.agg cs) W :=
 run_loadSub W b o 48 cs _ _ Tryz.underlying265 rfl (by kernel_rfl)
@[go_sem ↓] theorem index_40 (W:World) (l:Nat->Pt):(Instr.index 265 (.agg (cs4 l)) (.int .i64 0)).run Tryz.prog W=.ok (.agg (l 0).cs) W:=by kernel_rfl
@[go_sem ↓] theorem index_41 (W:World) (l:Nat->Pt):(Instr.index 265 (.agg (cs4 l)) (.int .i64 1)).run Tryz.prog W=.ok (.agg (l 1).cs) W:=by kernel_rfl
@[go_sem ↓] theorem index_42 (W:World) (l:Nat->Pt):(Instr.index 265 (.agg (cs4 l)) (.int .i64 2)).run Tryz.prog W=.ok (.agg (l 2).cs) W:=by kernel_rfl
@[go_sem ↓] theorem index_43 (W:World) (l:Nat->Pt):(Instr.index 265 (.agg (cs4 l)) (.int .i64 3)).run Tryz.prog W=.ok (.agg (l 3).cs) W:=by kernel_rfl
section
variable (W:World) (n:Nat) (X:Array Value)
@[go_sem] theorem setRow_at (c:Array Value) (t:TypeId) [k:SizeIs W n]:(W.alloc (.cells c t)).setRow n X=W.alloc (.cells X t):=by
 have hk:=k.h
 subst hk
 refine congrArg (λ hp=>({ W with heap:=hp }:World)) (Array.ext_getElem? λ j=>?_)
 show ((W.heap.push (.cells c t)).modify W.heap.size _)[j]?=(W.heap.push (.cells X t))[j]?
 simp only [Array.getElem?_modify,Array.getElem?_push]
 by_cases h:W.heap.size=j
 ·subst h;simp
 ·rw [if_neg h,if_neg (Ne.symm h),if_neg (Ne.symm h)]
@[go_sem] theorem setRow_past (o:Obj) [k:Old n W]:(W.alloc o).setRow n X=(W.setRow n X).alloc o:=by
 have hk:=k.h
 refine congrArg (λ hp=>({ W with heap:=hp }:World)) (Array.ext_getElem? λ j=>?_)
 show ((W.heap.push o).modify n _)[j]?=((W.heap.modify n _).push o)[j]?
 simp only [Array.getElem?_modify,Array.getElem?_push,Array.size_modify]
 by_cases h:n=j
 ·subst h;rw [if_pos rfl,if_neg (by omega),if_neg (by omega),if_pos rfl]
 ·rw [if_neg h,if_neg h]
@[go_sem] theorem setRow_gr (g:Gr) [k:Old n W]:(gr W g).setRow n X=gr (W.setRow n X) g:=by
 simp only [gr,World.setRow,grow,redrawn]
 rw [modify_append_left _ _ _ _ k.h]
@[go_sem] theorem setRow_md (h:Hl) (c:World) [k:Old n W] [o:Out n h]:(md W h c).setRow n X=md (W.setRow n X) h c:=by
 have hk:=k.h
 simp only [md,World.setRow]
 congr 1
 apply Array.ext_getElem?
 intro j
 simp only [Array.getElem?_modify,Array.getElem?_ofFn,Array.size_modify]
 by_cases hj:n=j
 ·subst hj
  rw [if_pos rfl,dif_pos (by omega),if_pos ⟨hk,o.none⟩,dif_pos (by omega),if_pos ⟨hk,o.none⟩]
  simp [hk,Array.getElem_modify]
 ·rw [if_neg hj]
  split
  ·split <;> simp [Array.getElem?_modify,hj]
  ·rfl
end
instance oldRow (w:World) (b:Nat) (X:Array Value) (n:Nat) [k:Old n w]:Old n (w.setRow b X):=⟨by rw [setRow_size];exact k.h⟩
def upd (l:Nat->Pt) (k:Nat) (p:Pt) (j:Nat):Pt:=if j=k then p else l j
class Arr4 (b:Nat) (l:outParam (Nat->Pt)) (W:World):Prop where
 old:Old b W
 blk:∃ t,W.heap[b]?=some (.cells (cs4 l) t (0,0))
instance arrNew (W:World) (b:Nat) (l:Nat->Pt) (t:TypeId) [k:SizeIs W b]:Arr4 b l (W.alloc (.cells (cs4 l) t)):=⟨ii,t,by rw [<-k.h];exact alloc_heap_new _ _⟩
instance arrGr (b:Nat) (l:Nat->Pt) (W:World) (g:Gr) [h:Arr4 b l W]:Arr4 b l (gr W g):=by
 haveI:=h.old
 obtain ⟨t,e⟩:=h.blk
 exact ⟨ii,t,(gr_heap _ _ h.old.h).trans e⟩
instance arrAlloc (b:Nat) (l:Nat->Pt) (W:World) (o:Obj) [h:Arr4 b l W]:Arr4 b l (W.alloc o):=by
 haveI:=h.old
 obtain ⟨t,e⟩:=h.blk
 exact ⟨ii,t,(Below.heap_alloc _ _ _ h.old.h).trans e⟩
theorem cs_oneCell (p:Pt):∀ v∈p.cs.toList,v.oneCell'=true:=by simp [Pt.cs,Value.oneCell']
theorem cs4_upd (l:Nat->Pt) (p:Pt) (k:Nat) (hk:k < 4):((cs4 l).toList.take (12*k+0)++p.cs.toList++(cs4 l).toList.drop (12*k+0+p.cs.toList.length)).toArray=cs4 (upd l k p):=by
 have e:∀ l:Nat->Pt,(cs4 l).toList=(l 0).cs.toList++((l 1).cs.toList++((l 2).cs.toList++(l 3).cs.toList)):=λ l=>by simp [cs4]
 have hl:∀ p:Pt,p.cs.toList.length=12:=λ p=>rfl
 have ht:∀ (p:Pt) (n:Nat),12<=n->p.cs.toList.take n=p.cs.toList:=λ p n h=>List.take_of_length_le (by rw [hl];exact h)
 have hd:∀ (p:Pt) (n:Nat),12<=n->p.cs.toList.drop n=[]:=λ p n h=>List.drop_eq_nil_of_le (by rw [hl];exact h)
 apply Array.ext'
 rw [e (upd l k p),e l]
 match k,hk with
 | 0,_=>simp [upd,hl]
 | 1,_=>simp [upd,hl,hd,List.drop_append]
 | 2,_=>simp [upd,hl,hd,ht,List.drop_append,List.take_append]
 | 3,_=>simp [upd,hl,hd,ht,List.drop_append,List.take_append]
theorem store_4 (W:World) (b:Nat) (l:Nat->Pt) (p:Pt) [h:Arr4 b l W] (k:Nat) (hk:k < 4):(Instr.storeAt 50 (.pointer (some ⟨b,12*k,none⟩)) (.agg p.cs)).run Tryz.prog W=.ok () (W.setRow b (cs4 (upd l k p))):=by
 obtain ⟨t,hb⟩:=h.blk
 have hs:=run_storeCells_at Tryz.prog b (12*k) t p.cs.toList 0 (cs4 l) W hb (by rw [cs4_size,Array.length_toList,Pt.cs_size];omega) (cs_oneCell p)
 rw [cs4_upd l p k hk] at hs
 have hi:(Tryz.prog.info? 50).map (·.size)=some 12:=by kernel_rfl
 cases hq:Tryz.prog.info? 50 with
 | none=>simp [hq] at hi
 | some i =>
  have hz:i.size=12:=by rw [hq] at hi;simpa using hi
  simp [Instr.storeAt,storeVar,Instr.sureAddr,sizeOf,typeInfo,hq,Value.cells,Pt.cs_size,hz,hs]
@[go_sem ↓] theorem store_40 (W:World) (b:Nat) (l:Nat->Pt) (p:Pt) [h:Arr4 b l W]:(Instr.storeAt 50 (.pointer (some ⟨b,0,none⟩)) (.agg p.cs)).run Tryz.prog W=.ok () (W.setRow b (cs4 (upd l 0 p))):=store_4 W b l p 0 (by omega)
@[go_sem ↓] theorem store_41 (W:World) (b:Nat) (l:Nat->Pt) (p:Pt) [h:Arr4 b l W]:(Instr.storeAt 50 (.pointer (some ⟨b,12,none⟩)) (.agg p.cs)).run Tryz.prog W=.ok () (W.setRow b (cs4 (upd l 1 p))):=store_4 W b l p 1 (by omega)
@[go_sem ↓] theorem store_42 (W:World) (b:Nat) (l:Nat->Pt) (p:Pt) [h:Arr4 b l W]:(Instr.storeAt 50 (.pointer (some ⟨b,24,none⟩)) (.agg p.cs)).run Tryz.prog W=.ok () (W.setRow b (cs4 (upd l 2 p))):=store_4 W b l p 2 (by omega)
@[go_sem ↓] theorem store_43 (W:World) (b:Nat) (l:Nat->Pt) (p:Pt) [h:Arr4 b l W]:(Instr.storeAt 50 (.pointer (some ⟨b,36,none⟩)) (.agg p.cs)).run Tryz.prog W=.ok () (W.setRow b (cs4 (upd l 3 p))):=store_4 W b l p 3 (by omega)
section
variable {P:Program} (w:World) (d:Nat) (xs ys:Array Value)
def EqOk (P:Program) (w:World) (d:Nat) (xs ys:Array Value):List (TypeId × Nat)->Bool->Prop
 | [],r=>r=true
 | (t,o)::ks,r=>∃ a b r1 r2,(part t xs o).run P w=.ok a w/\(part t ys o).run P w=.ok b w/\(Op.equalIn d t a b).run P w=.ok r1 w/\EqOk P w d xs ys ks r2/\r=(r1 && r2)
theorem eqFields_of : ∀ (fs : List Field) (ks : List (TypeId × Nat)) (r : Bool), fs.map (λ f => (f.type, f.offset)) = ks -> fs.all (λ f => f.name != "_") = true -> EqOk P w d xs ys ks r -> (Op.eqFields d xs ys fs).run P w = .ok r w
 | [],_,r,rfl,_,h=>by
  have h:r=true:=h
  rw [h];rfl
 | f::fs,_,r,rfl,hn,⟨a,b,r1,r2,h1,h2,h3,h4,h5⟩=>by
  simp only [List.all_cons,Bool.and_eq_true,bne_iff_ne] at hn
  have ih:=eqFields_of fs _ r2 rfl hn.2 h4
  unfold Op.eqFields
  rw [if_pos hn.1]
  simp only [Sem.run_bind,h1,h2,h3,Result.andThen_ok]
  rw [h5]
  cases r1
  ·rfl
  ·simpa using ih
theorem eqItems_of (t:TypeId) (z:Nat):∀ (is:List Nat) (r:Bool),EqOk P w d xs ys (is.map λ i=>(t,i*z)) r->(Op.eqItems d t z xs ys is).run P w=.ok r w
 | [],r,h=>by
  have h:r=true:=h
  rw [h];rfl
 | i::is,r,⟨a,b,r1,r2,h1,h2,h3,h4,h5⟩=>by
  have ih:=eqItems_of t z is r2 h4
  unfold Op.eqItems
  simp only [Sem.run_bind,h1,h2,h3,Result.andThen_ok]
  rw [h5]
  cases r1
  ·rfl
  ·simpa using ih
theorem equal_struct (t : TypeId) (ks : List (TypeId × Nat)) (r : Bool) (ht : P.underlying t = some (.struct (P.fieldsOf t))) (hp : P.stoodInHeld t = false) (hk : (P.fieldsOf t).toList.map (λ f => (f.type, f.offset)) = ks) (hn : (P.fieldsOf t).toList.all (λ f => f.name != "_") = true) (h : EqOk P w d xs ys ks r) :
  (Op.equalIn (d+1) t (.agg xs) (.agg ys)).run P w=.ok r w:=by
 rw [run_equalIn_struct w d t xs ys ht hp]
 exact eqFields_of w d xs ys _ ks r hk hn h
end
theorem eq_place (w:World) (d:Nat) (a b a' b':Int):(Op.equalIn (d+2) 45 (.agg #[.int .i64 a,.int .i64 b]) (.agg #[.int .i64 a',.int .i64 b'])).run Tryz.prog w=.ok ((a == a') && ((b == b') && true)) w :=
 equal_struct w (d+1) _ _ _ [(3,0),(3,1)] _ (by kernel_rfl) (by kernel_rfl) (by kernel_rfl) (by kernel_rfl) ⟨.int .i64 a,.int .i64 a',(a == a'),((b == b') && true),by kernel_rfl,by kernel_rfl,run_equalIn_int w _ _ _ _ _ _ Tryz.underlying3,⟨.int .i64 b,.int .i64 b',(b == b'),true,by kernel_rfl,by kernel_rfl,run_equalIn_int w _ _ _ _ _ _ Tryz.underlying3,rfl,rfl⟩,rfl⟩
def sumEq (x y:S4):Bool:=(((x.a:Int) == (y.a:Int)) && (((x.b:Int) == (y.b:Int)) && (((x.c:Int) == (y.c:Int)) && (((x.d:Int) == (y.d:Int)) && true))))
theorem eq_sum (w:World) (d:Nat) (x y:S4):(Op.equalIn (d+2) 48 (.agg #[.int .u64 x.a,.int .u64 x.b,.int .u64 x.c,.int .u64 x.d]) (.agg #[.int .u64 y.a,.int .u64 y.b,.int .u64 y.c,.int .u64 y.d])).run Tryz.prog w=.ok (sumEq x y) w:=by
 obtain ⟨i,hi⟩:∃ i,Tryz.prog.info? 46=some i:=Option.isSome_iff_exists.1 (by kernel_rfl)
 rw [run_equalIn_array (P:=Tryz.prog) w (d+1) _ _ Tryz.underlying48 hi,show Tryz.prog.cellsOf 46=1 by kernel_rfl]
 exact eqItems_of w _ _ _ _ 1 [0,1,2,3] _ ⟨.int .u64 x.a,.int .u64 y.a,((x.a:Int) == (y.a:Int)),(((x.b:Int) == (y.b:Int)) && (((x.c:Int) == (y.c:Int)) && (((x.d:Int) == (y.d:Int)) && true))),by kernel_rfl,by kernel_rfl,run_equalIn_int w _ _ _ _ _ _ Tryz.underlying46,⟨.int .u64 x.b,.int .u64 y.b,((x.b:Int) == (y.b:Int)),(((x.c:Int) == (y.c:Int)) && (((x.d:Int) == (y.d:Int)) && true)),by kernel_rfl,by kernel_rfl,run_equalIn_int w _ _ _ _ _ _ Tryz.underlying46,⟨.int .u64 x.c,.int .u64 y.c,((x.c:Int) == (y.c:Int)),(((x.d:Int) == (y.d:Int)) && true),by kernel_rfl,by kernel_rfl,run_equalIn_int w _ _ _ _ _ _ Tryz.underlying46,⟨.int .u64 x.d,.int .u64 y.d,((x.d:Int) == (y.d:Int)),true,by kernel_rfl,by kernel_rfl,run_equalIn_int w _ _ _ _ _ _ Tryz.underlying46,rfl,rfl⟩,rfl⟩,rfl⟩,rfl⟩
theorem sumEq_iff (x y:S4):sumEq x y=true ↔ x=y:=by
 obtain ⟨a,b,c,d⟩:=x
 obtain ⟨a',b',c',d'⟩:=y
 simp only [sumEq,Bool.and_true,Bool.and_eq_true,beq_iff_eq,S4.mk.injEq]
 omega
def ptEq (p q:Pt):Bool:=(((p.ag == q.ag) && ((p.aa == q.aa) && true)) && (((p.bg == q.bg) && ((p.ba == q.ba) && true)) && ((p.two == q.two) && ((p.size == q.size) && ((p.level == q.level) && ((p.birth == q.birth) && ((sumEq p.sum q.sum) && true)))))))
theorem eq_pt (w:World) (d:Nat) (p q:Pt):(Op.equalIn (d+3) 50 (.agg p.cs) (.agg q.cs)).run Tryz.prog w=.ok (ptEq p q) w :=
 equal_struct w (d+2) _ _ _ [(45,0),(45,2),(4,4),(3,5),(3,6),(3,7),(48,8)] _ (by kernel_rfl) (by kernel_rfl) (by kernel_rfl) (by kernel_rfl) ⟨.agg #[.int .i64 p.ag,.int .i64 p.aa],.agg #[.int .i64 q.ag,.int .i64 q.aa],((p.ag == q.ag) && ((p.aa == q.aa) && true)),(((p.bg == q.bg) && ((p.ba == q.ba) && true)) && ((p.two == q.two) && ((p.size == q.size) && ((p.level == q.level) && ((p.birth == q.birth) && ((sumEq p.sum q.sum) && true)))))),by kernel_rfl,by kernel_rfl,eq_place w _ _ _ _ _,⟨.agg #[.int .i64 p.bg,.int .i64 p.ba],.agg #[.int .i64 q.bg,.int .i64 q.ba],((p.bg == q.bg) && ((p.ba == q.ba) && true)),((p.two == q.two) && ((p.size == q.size) && ((p.level == q.level) && ((p.birth == q.birth) && ((sumEq p.sum q.sum) && true))))),by kernel_rfl,by kernel_rfl,eq_place w _ _ _ _ _,⟨.bool p.two,.bool q.two,(p.two == q.two),((p.size == q.size) && ((p.level == q.level) && ((p.birth == q.birth) && ((sumEq p.sum q.sum) && true)))),by kernel_rfl,by kernel_rfl,run_equalIn_bool' w _ _ _ _ Tryz.underlying4,⟨.int .i64 p.size,.int .i64 q.size,(p.size == q.size),((p.level == q.level) && ((p.birth == q.birth) && ((sumEq p.sum q.sum) && true))),by kernel_rfl,by kernel_rfl,run_equalIn_int w _ _ _ _ _ _ Tryz.underlying3,⟨.int .i64 p.level,.int .i64 q.level,(p.level == q.level),((p.birth == q.birth) && ((sumEq p.sum q.sum) && true)),by kernel_rfl,by kernel_rfl,run_equalIn_int w _ _ _ _ _ _ Tryz.underlying3,⟨.int .i64 p.birth,.int .i64 q.birth,(p.birth == q.birth),((sumEq p.sum q.sum) && true),by kernel_rfl,by kernel_rfl,run_equalIn_int w _ _ _ _ _ _ Tryz.underlying3,⟨.agg #[.int .u64 p.sum.a,.int .u64 p.sum.b,.int .u64 p.sum.c,.int .u64 p.sum.d],.agg #[.int .u64 q.sum.a,.int .u64 q.sum.b,.int .u64 q.sum.c,.int .u64 q.sum.d],(sumEq p.sum q.sum),true,by kernel_rfl,by kernel_rfl,eq_sum w _ p.sum q.sum,rfl,rfl⟩,rfl⟩,rfl⟩,rfl⟩,rfl⟩,rfl⟩,rfl⟩
theorem ptEq_iff (p q:Pt):ptEq p q=true ↔ p=q:=by
 unfold ptEq
 obtain ⟨a,b,c,d,e,f,g,h,i⟩:=p
 obtain ⟨a',b',c',d',e',f',g',h',i'⟩:=q
 simp only [Bool.and_true,Bool.and_eq_true,beq_iff_eq,sumEq_iff,Pt.mk.injEq]
 simp only [and_assoc]
def ptsEq (l m:Nat->Pt):Bool:=ptEq (l 0) (m 0) && (ptEq (l 1) (m 1) && (ptEq (l 2) (m 2) && (ptEq (l 3) (m 3) && true)))
theorem eq_pts (w:World) (d:Nat) (l m:Nat->Pt):(Op.equalIn (d+4) 265 (.agg (cs4 l)) (.agg (cs4 m))).run Tryz.prog w=.ok (ptsEq l m) w:=by
 obtain ⟨i,hi⟩:∃ i,Tryz.prog.info? 50=some i:=Option.isSome_iff_exists.1 (by kernel_rfl)
 rw [run_equalIn_array (P:=Tryz.prog) w (d+3) _ _ Tryz.underlying265 hi,show Tryz.prog.cellsOf 50=12 by kernel_rfl]
 exact eqItems_of w _ _ _ _ 12 [0,1,2,3] _ ⟨.agg (l 0).cs,.agg (m 0).cs,_,_,by kernel_rfl,by kernel_rfl,eq_pt w d _ _,⟨.agg (l 1).cs,.agg (m 1).cs,_,_,by kernel_rfl,by kernel_rfl,eq_pt w d _ _,⟨.agg (l 2).cs,.agg (m 2).cs,_,_,by kernel_rfl,by kernel_rfl,eq_pt w d _ _,⟨.agg (l 3).cs,.agg (m 3).cs,_,_,by kernel_rfl,by kernel_rfl,eq_pt w d _ _,rfl,rfl⟩,rfl⟩,rfl⟩,rfl⟩
theorem ptsEq_iff (l m:Nat->Pt):ptsEq l m=true ↔ ∀ k,k < 4->l k=m k:=by
 simp only [ptsEq,Bool.and_true,Bool.and_eq_true,ptEq_iff]
 constructor
 ·rintro ⟨h0,h1,h2,h3⟩ k hk
  match k,hk with
  | 0,_=>exact h0
  | 1,_=>exact h1
  | 2,_=>exact h2
  | 3,_=>exact h3
 ·exact λ h=>⟨h 0 (by omega),h 1 (by omega),h 2 (by omega),h 3 (by omega)⟩
class AggTy (t:TypeId) (z:outParam Nat):Prop where
 run:∀ (W:World) (b o:Nat) (cs:Array Value),SubAt b o cs z W->(Instr.loadAt t (.pointer (some ⟨b,o,none⟩))).run Tryz.prog W=.ok (.agg cs) W
instance:AggTy 50 12:=⟨λ W b o cs _=>load_pt W b o cs⟩
instance:AggTy 52 13:=⟨λ W b o cs _=>load_nd W b o cs⟩
instance:AggTy 265 48:=⟨λ W b o cs _=>load_4 W b o cs⟩
class StoTy (t:TypeId) (b o:Nat) (v:Array Value) (W:World) (W':outParam World):Prop where
 run:(Instr.storeAt t (.pointer (some ⟨b,o,none⟩)) (.agg v)).run Tryz.prog W=.ok () W'
instance sto0 (b:Nat) (l:Nat->Pt) (p:Pt) (W:World) [h:Arr4 b l W]:StoTy 50 b 0 p.cs W (W.setRow b (cs4 (upd l 0 p))):=⟨store_40 W b l p⟩
instance sto1 (b:Nat) (l:Nat->Pt) (p:Pt) (W:World) [h:Arr4 b l W]:StoTy 50 b 12 p.cs W (W.setRow b (cs4 (upd l 1 p))):=⟨store_41 W b l p⟩
instance sto2 (b:Nat) (l:Nat->Pt) (p:Pt) (W:World) [h:Arr4 b l W]:StoTy 50 b 24 p.cs W (W.setRow b (cs4 (upd l 2 p))):=⟨store_42 W b l p⟩
instance sto3 (b:Nat) (l:Nat->Pt) (p:Pt) (W:World) [h:Arr4 b l W]:StoTy 50 b 36 p.cs W (W.setRow b (cs4 (upd l 3 p))):=⟨store_43 W b l p⟩
def none4 (_:Nat):Pt:=Pt.none
class BldTy (t:TypeId) (v:outParam (Array Value)):Prop where
 run:∀ w:World,(Instr.build t #[]).run Tryz.prog w=.ok (.agg v) w
instance:BldTy 50 Pt.none.cs:=⟨λ _=>by kernel_rfl⟩
instance:BldTy 52 (Nd.mk 0 Pt.none).cs:=⟨λ _=>by kernel_rfl⟩
instance:BldTy 265 (cs4 none4):=⟨λ _=>by kernel_rfl⟩
theorem build_one4 (w:World) (p:Pt):(Instr.build 265 #[(0,.agg p.cs)]).run Tryz.prog w=.ok (.agg (cs4 (upd none4 0 p))) w:=by kernel_rfl
class EqlTy (t:TypeId) (xs ys:Array Value) (r:outParam Bool):Prop where
 run:∀ w:World,(Op.equalIn 10000 t (.agg xs) (.agg ys)).run Tryz.prog w=.ok r w
 guard:Tryz.prog.eqGuardType Tryz.prog.depth t=false
def Pt.isNone (p:Pt):Bool:=ptEq p Pt.none
instance eqlNone (p:Pt):EqlTy 50 p.cs Pt.none.cs p.isNone:=⟨λ w=>eq_pt w 9997 p _,by kernel_rfl⟩
instance eqlPts (l m:Nat->Pt):EqlTy 265 (cs4 l) (cs4 m) (ptsEq l m):=⟨λ w=>eq_pts w 9996 l m,by kernel_rfl⟩
section
variable {ops:Array Oper} {rest:List Oper} {Q:Exit->Act->World->Prop} {a:Act} {w:World} {d:Option Tmp} {ty:TypeId} {pos:String} {aft:Array Edge} {C:World->Prop} {K:Act->Prop}
theorem wpList_value {o:Oper} {v:Value} {w':World} (hg:o.guard=none) (hr:(execOp a.eval o).run Tryz.prog w=.ok (.value v) w') (h:wpList Tryz.prog ops Q rest (a.put o.dst v) w'):wpList Tryz.prog ops Q (o::rest) a w:=by
 refine wpList_plain hg λ K hK=>?_
 unfold Oper.wp
 rw [hr]
 exact hK _ _ h
theorem wpList_load {t:TypeId} {x:Operand} {b o z:Nat} {cs:Array Value} [k:AggTy t z] (hx:a.eval x=.pointer (some ⟨b,o,none⟩)) (hs:SubAt b o cs z w) (h:wpList Tryz.prog ops Q rest (a.put d (.agg cs)) w) :
  wpList Tryz.prog ops Q ({ dst:=d,op:=.load t x,type:=ty,pos:=pos,after:=aft,guard:=none }::rest) a w:=by
 refine wpList_value (v:=.agg cs) (w':=w) rfl ?_ h
 simp only [execOp,hx,Sem.run_bind,k.run w b o cs hs,Result.andThen_ok,Sem.run_pure]
theorem wpList_store {t:TypeId} {x y:Operand} {b o:Nat} {cs:Array Value} {W':World} (hx:a.eval x=.pointer (some ⟨b,o,none⟩)) (hy:a.eval y=.agg cs) (hs:StoTy t b o cs w W') (h:wpList Tryz.prog ops Q rest a W') :
  wpList Tryz.prog ops Q ({ dst:=none,op:=.store t x y,type:=ty,pos:=pos,after:=aft,guard:=none }::rest) a w:=by
 refine wpList_plain rfl λ K hK=>?_
 unfold Oper.wp
 simp only [execOp,hx,hy,Sem.run_bind,hs.run,Result.andThen_ok,Sem.run_pure]
 exact hK _ _ h
theorem wpList_build0 {t:TypeId} {v:Array Value} [k:BldTy t v] (h:wpList Tryz.prog ops Q rest (a.put d (.agg v)) w) :
  wpList Tryz.prog ops Q ({ dst:=d,op:=.build t #[],type:=ty,pos:=pos,after:=aft,guard:=none }::rest) a w:=by
 refine wpList_value (v:=.agg v) (w':=w) rfl ?_ h
 simp only [execOp,List.map_toArray,List.map_nil,Sem.run_bind,k.run w,Result.andThen_ok,Sem.run_pure]
theorem wpList_build1 {x:Operand} {p:Pt} (hx:a.eval x=.agg p.cs) (h:wpList Tryz.prog ops Q rest (a.put d (.agg (cs4 (upd none4 0 p)))) w) :
  wpList Tryz.prog ops Q ({ dst:=d,op:=.build 265 #[(0,x)],type:=ty,pos:=pos,after:=aft,guard:=none }::rest) a w:=by
 refine wpList_value (v:=.agg _) (w':=w) rfl ?_ h
 simp only [execOp,List.map_toArray,List.map_cons,List.map_nil,hx,Sem.run_bind,build_one4 w p,Result.andThen_ok,Sem.run_pure]
theorem build_nd (w:World) (z:Int) (p:Pt):(Instr.build 52 #[(0,.int .i64 z),(1,.agg p.cs)]).run Tryz.prog w=.ok (.agg (Nd.mk z p).cs) w:=by kernel_rfl
theorem wpList_build_nd {x y:Operand} {z:Int} {p:Pt} (hx:a.eval x=.int .i64 z) (hy:a.eval y=.agg p.cs) (h:wpList Tryz.prog ops Q rest (a.put d (.agg (Nd.mk z p).cs)) w) :
  wpList Tryz.prog ops Q ({ dst:=d,op:=.build 52 #[(0,x),(1,y)],type:=ty,pos:=pos,after:=aft,guard:=none }::rest) a w:=by
 refine wpList_value (v:=.agg _) (w':=w) rfl ?_ h
 simp only [execOp,List.map_toArray,List.map_cons,List.map_nil,hx,hy,Sem.run_bind,build_nd w z p,Result.andThen_ok,Sem.run_pure]
theorem wpList_eql {t t':TypeId} {x y:Operand} {xs ys:Array Value} {r:Bool} (hx:a.eval x=.agg xs) (hy:a.eval y=.agg ys) (hs:EqlTy t xs ys r) (h:wpList Tryz.prog ops Q rest (a.put d (.bool r)) w) :
  wpList Tryz.prog ops Q ({ dst:=d,op:=.binOp .eql t x y t',type:=ty,pos:=pos,after:=aft,guard:=none }::rest) a w:=by
 refine wpList_value (v:=.bool r) (w':=w) rfl ?_ h
 simp only [execOp,hx,hy,Sem.run_bind,run_eqGuard_agg (P:=Tryz.prog) w .eql t x y xs ys hs.guard,run_eql_struct,hs.run w,Result.andThen_ok,Sem.run_pure]
theorem wpQuiet_load {t:TypeId} {x:Operand} {b o z:Nat} {cs:Array Value} [k:AggTy t z] (hx:a.eval x=.pointer (some ⟨b,o,none⟩)) (hs:∀ w',C w'->SubAt b o cs z w') (h:wpQuiet Tryz.prog ops C K rest (a.put d (.agg cs))) :
  wpQuiet Tryz.prog ops C K ({ dst:=d,op:=.load t x,type:=ty,pos:=pos,after:=aft,guard:=none }::rest) a:=by
 unfold wpQuiet
 rw [if_pos (by simp [Region.wanted])]
 refine ⟨.agg cs,λ w hw=>?_,h⟩
 unfold Oper.quietAt
 have:(execOp a.eval { dst:=d,op:=.load t x,type:=ty,pos:=pos,after:=aft,guard:=none }).run Tryz.prog w=.ok (.value (.agg cs)) w:=by
  simp only [execOp,hx,Sem.run_bind,k.run w b o cs (hs w hw),Result.andThen_ok,Sem.run_pure]
 rw [this]
 exact ⟨rfl,rfl⟩
end
instance none_fn (p:Pt) (W:World):Fn 169 #[.agg p.cs] W (.bool p.isNone):=by
 refine ⟨?_⟩
 go_enter Tryz.func169,Tryz.ntmps169
 go_wp2_with (first | ((with_reducible apply wpList_load);(·exact rfl);(·exact ii)) | (with_reducible apply wpList_build0) | ((with_reducible apply wpList_eql);(·exact rfl);(·exact rfl);(·exact ii)))
 go_ret
 exact Ret.mk rfl grown
attribute [go_sem] Pt.cs_size Nd.cs_size cs4_size
class Row (b n:Nat) (W:World):Prop where
 old:Old b W
 blk:∃ cs t,cs.size=n/\W.heap[b]?=some (.cells cs t (0,0))
theorem row_of {W:World} {b n:Nat} {cs:Array Value} {t:TypeId} [k:SizeIs W b] (h:cs.size=n):Row b n (W.alloc (.cells cs t)):=⟨ii,cs,t,h,by rw [<-k.h];exact alloc_heap_new _ _⟩
instance row12 (W:World) (b:Nat) (a0 a1 a2 a3 a4 a5 a6 a7 a8 a9 a10 a11:Value) (t:TypeId) [k:SizeIs W b]:Row b 12 (W.alloc (.cells #[a0,a1,a2,a3,a4,a5,a6,a7,a8,a9,a10,a11] t)):=row_of rfl
instance row13 (W:World) (b:Nat) (a0 a1 a2 a3 a4 a5 a6 a7 a8 a9 a10 a11 a12:Value) (t:TypeId) [k:SizeIs W b]:Row b 13 (W.alloc (.cells #[a0,a1,a2,a3,a4,a5,a6,a7,a8,a9,a10,a11,a12] t)):=row_of rfl
instance rowGr (b n:Nat) (W:World) (g:Gr) [h:Row b n W]:Row b n (gr W g):=by
 haveI:=h.old
 obtain ⟨cs,t,z,e⟩:=h.blk
 exact ⟨ii,cs,t,z,(gr_heap _ _ h.old.h).trans e⟩
instance rowAlloc (b n:Nat) (W:World) (o:Obj) [h:Row b n W]:Row b n (W.alloc o):=by
 haveI:=h.old
 obtain ⟨cs,t,z,e⟩:=h.blk
 exact ⟨ii,cs,t,z,(Below.heap_alloc _ _ _ h.old.h).trans e⟩
theorem store_whole (W:World) (b n:Nat) (cs:Array Value) (hn:cs.size=n) (hc:∀ v∈cs.toList,v.oneCell'=true) [h:Row b n W]:(storeCells ⟨b,0,none⟩ cs.toList).run Tryz.prog W=.ok () (W.setRow b cs):=by
 obtain ⟨xs,t,hz,hb⟩:=h.blk
 have hs:=run_storeCells_at Tryz.prog b 0 t cs.toList 0 xs W hb (by rw [Array.length_toList];omega) hc
 have e:(xs.toList.take 0++cs.toList++xs.toList.drop (0+cs.toList.length)).toArray=cs:=by
  rw [List.drop_eq_nil_of_le (by rw [Array.length_toList,Array.length_toList];omega)]
  simp
 rw [e] at hs
 exact hs
theorem nd_oneCell (p:Nd):∀ v∈p.cs.toList,v.oneCell'=true:=by simp [Nd.cs,Pt.cs,Value.oneCell']
theorem cs4_oneCell (l:Nat->Pt):∀ v∈(cs4 l).toList,v.oneCell'=true:=by
 intro v hv
 simp only [cs4,Array.toList_append,List.mem_append] at hv
 rcases hv with ((hv | hv) | hv) | hv <;> exact cs_oneCell _ v hv
section
variable (W:World) (b:Nat)
@[go_sem] theorem store_pt0 (p:Pt) [h:Row b 12 W]:(storeCells ⟨b,0,none⟩ p.cs.toList).run Tryz.prog W=.ok () (W.setRow b p.cs):=store_whole W b 12 _ rfl (cs_oneCell p)
@[go_sem] theorem store_nd0 (p:Nd) [h:Row b 13 W]:(storeCells ⟨b,0,none⟩ p.cs.toList).run Tryz.prog W=.ok () (W.setRow b p.cs):=store_whole W b 13 _ rfl (nd_oneCell p)
@[go_sem] theorem store_440 (l:Nat->Pt) [h:Row b 48 W]:(storeCells ⟨b,0,none⟩ (cs4 l).toList).run Tryz.prog W=.ok () (W.setRow b (cs4 l)):=store_whole W b 48 _ (cs4_size l) (cs4_oneCell l)
theorem store_kk (l:Nat->Pt) (p:Pt) [h:Arr4 b l W] (k:Nat) (hk:k < 4):(storeCells ⟨b,12*k,none⟩ p.cs.toList).run Tryz.prog W=.ok () (W.setRow b (cs4 (upd l k p))):=by
 obtain ⟨t,hb⟩:=h.blk
 have hs:=run_storeCells_at Tryz.prog b (12*k) t p.cs.toList 0 (cs4 l) W hb (by rw [cs4_size,Array.length_toList,Pt.cs_size];omega) (cs_oneCell p)
 rw [cs4_upd l p k hk] at hs
 exact hs
@[go_sem] theorem store_k0 (l:Nat->Pt) (p:Pt) [h:Arr4 b l W]:(storeCells ⟨b,0,none⟩ p.cs.toList).run Tryz.prog W=.ok () (W.setRow b (cs4 (upd l 0 p))):=store_kk W b l p 0 (by omega)
@[go_sem] theorem store_k1 (l:Nat->Pt) (p:Pt) [h:Arr4 b l W]:(storeCells ⟨b,12,none⟩ p.cs.toList).run Tryz.prog W=.ok () (W.setRow b (cs4 (upd l 1 p))):=store_kk W b l p 1 (by omega)
@[go_sem] theorem store_k2 (l:Nat->Pt) (p:Pt) [h:Arr4 b l W]:(storeCells ⟨b,24,none⟩ p.cs.toList).run Tryz.prog W=.ok () (W.setRow b (cs4 (upd l 2 p))):=store_kk W b l p 2 (by omega)
@[go_sem] theorem store_k3 (l:Nat->Pt) (p:Pt) [h:Arr4 b l W]:(storeCells ⟨b,36,none⟩ p.cs.toList).run Tryz.prog W=.ok () (W.setRow b (cs4 (upd l 3 p))):=store_kk W b l p 3 (by omega)
end
end Go.Proofs.YtlfjdjndhcmliaaGreatDoor
