/- WholeGeoms, part 1. -/
import Derived.Test.YtlfjdjndhcmliaaGreatDoorA00
import Derived.Test.YtlfjdjndhcmliaaGreatDoorChecked
import Derived.Handy
import Derived.Laws.ResultCell
import Derived.ChangeKeysEq
set_option maxRecDepth 100000
set_option maxHeartbeats 4000000
set_option linter.all false
namespace Go.Proofs.YtlfjdjndhcmliaaGreatDoor
open Go.RowKit Go.Sort
abbrev Hl:=Nat->Option Obj
class Has (W:World) (h:semiOutParam Hl):Prop where
 get:∀ n o,h n=some o->W.heap[n]?=some o
class Out (n:Nat) (h:Hl):Prop where
 none:h n=none
theorem Has.lt {W:World} {h:Hl} (i:Has W h) {n:Nat} {o:Obj} (e:h n=some o):n < W.heap.size:=(Array.getElem?_eq_some_iff.1 (i.get n o e)).1
theorem Has.out {W:World} {h:Hl} (i:Has W h) {n:Nat} (hn:W.heap.size<=n):h n=none:=by
 cases e:h n with
 | none=>rfl
 | some o=>have:=i.lt e;omega
theorem Has.cell {W:World} {h:Hl} [i:Has W h] {n k:Nat} {cs:Array Value} {t:TypeId} {f:Nat × Nat} (e:h n=some (.cells cs t f)):W.cell? ⟨n,k,none⟩=cs[k]?:=by
 simp [World.cell?,i.get _ _ e]
theorem Has.frozen {W:World} {h:Hl} [i:Has W h] {n k:Nat} {cs:Array Value} {t:TypeId} (e:h n=some (.cells cs t (0,0))):W.frozen? ⟨n,k,none⟩=false:=by
 simp [World.frozen?,i.get _ _ e]
theorem Has.old {W:World} {h:Hl} [i:Has W h] {n:Nat} {o:Obj} (e:h n=some o):Old n W:=⟨i.lt e⟩
def md (W:World) (h:Hl) (c:World):World :=
 { W with drawn:=c.drawn,heap:=Array.ofFn (n:=max W.heap.size c.heap.size) λ i=>if i.val < W.heap.size/\h i.val=none then W.heap.getD i.val default else c.heap.getD i.val default }
theorem md_size (W:World) (h:Hl) (c:World):(md W h c).heap.size=max W.heap.size c.heap.size:=by simp [md]
theorem md_out (W:World) (h:Hl) (c:World) {n:Nat} (hn:n < W.heap.size) (e:h n=none):(md W h c).heap[n]?=W.heap[n]?:=by
 simp only [md,Array.getElem?_ofFn]
 rw [dif_pos (by omega),if_pos ⟨hn,e⟩,Array.getElem?_eq_getElem hn]
 simp [hn]
theorem md_in (W:World) (h:Hl) (c:World) {n:Nat} {o:Obj} (hc:c.heap[n]?=some o) (e:h n≠none\/W.heap.size<=n):(md W h c).heap[n]?=some o:=by
 obtain ⟨hn,hv⟩:=Array.getElem?_eq_some_iff.1 hc
 simp only [md,Array.getElem?_ofFn]
 rw [dif_pos (by omega),if_neg (by rintro ⟨h1,h2⟩;rcases e with e | e;exact e h2;omega)]
 simp [hn,hv]
structure Mod (h:Hl) (W W':World):Prop where
 os:W'.os=W.os
 tape:W'.tape=W.tape
 output:W'.output=W.output
 size:W.heap.size<=W'.heap.size
 block:∀ k,k < W.heap.size->h k=none->W'.heap[k]?=W.heap[k]?
theorem Mod.eq {h:Hl} {W W':World} (m:Mod h W W'):W'=md W h W':=by
 have e:W'.heap=(md W h W').heap:=by
  apply Array.ext_getElem?
  intro n
  by_cases h1:n < W.heap.size/\h n=none
  ·rw [md_out W h W' h1.1 h1.2,m.block n h1.1 h1.2]
  ·by_cases h2:n < W'.heap.size
   ·rw [md_in W h W' (Array.getElem?_eq_getElem h2) (by
     by_cases h3:h n=none
     ·exact .inr (Nat.le_of_not_lt λ h4=>h1 ⟨h4,h3⟩)
     ·exact .inl h3),Array.getElem?_eq_getElem h2]
   ·rw [Array.getElem?_eq_none (by omega),Array.getElem?_eq_none (by rw [md_size];have:=m.size;omega)]
 have h1:=m.os
 have h2:=m.tape
 have h3:=m.output
 cases W'
 unfold md at e ⊢
 dsimp only at e h1 h2 h3
 rw [<-e,h1,h2,h3]
theorem Mod.refl (h:Hl) (W:World):Mod h W W:=⟨rfl,rfl,rfl,Nat.le_refl _,λ _ _ _=>rfl⟩
theorem Mod.of_below {h:Hl} {W W':World} (b:Below W.heap.size W W'):Mod h W W':=⟨b.os,b.tape,b.output,b.size,λ k hk _=>b.block k hk⟩
theorem Mod.trans {h h':Hl} {a b c:World} (m:Mod h a b) (m':Mod h' b c) (hh:∀ k,k < a.heap.size->h k=none->h' k=none):Mod h a c :=
 ⟨m'.os.trans m.os,m'.tape.trans m.tape,m'.output.trans m.output,Nat.le_trans m.size m'.size,λ k hk e=>(m'.block k (Nat.lt_of_lt_of_le hk m.size) (hh k hk e)).trans (m.block k hk e)⟩
theorem Mod.gr {h:Hl} {a W:World} (m:Mod h a W) (g:Gr):Mod h a (gr W g):=m.trans (Mod.of_below (h:=h) (below_gr W g)) λ _ _ e=>e
theorem Mod.alloc {h:Hl} {a W:World} (m:Mod h a W) (o:Obj):Mod h a (W.alloc o):=m.trans (Mod.of_below (h:=h) (belowAlloc (Below.refl _ _) o)) λ _ _ e=>e
theorem Mod.drew {h:Hl} {a W:World} (m:Mod h a W):Mod h a W.drew:=m.trans (Mod.of_below (h:=h) (Below.refl _ _).drew) λ _ _ e=>e
theorem md_mod (W:World) (h:Hl) (c:World):Mod h W (md W h c):=⟨rfl,rfl,rfl,by rw [md_size];omega,λ _ hk e=>md_out W h c hk e⟩
theorem Mod.setCell {h:Hl} {a W:World} (m:Mod h a W) {p:Addr} (hp:a.heap.size<=p.block\/h p.block≠none) (v:Value):Mod h a (W.setCell p v) :=
 ⟨m.os,m.tape,m.output,by rw [World.size_setCell];exact m.size,λ k hk e=>by
  rw [Below.heap_setCell _ _ _ _ (λ e'=>by rcases hp with hp | hp;omega;exact hp (e' ▸ e))]
  exact m.block k hk e⟩
class HasAt (c:World) (h:Hl) (k:outParam Nat) (h':outParam Hl):Prop where
 get:∀ n o,h' n=some o->c.heap[n]?=some o/\(h n≠none\/k<=n)
class Ext (h':Hl) (h:outParam Hl) (k:outParam Nat):Prop where
 out:∀ n,n < k->h n=none->h' n=none
theorem HasAt.ext {c:World} {h:Hl} {k:Nat} {h':Hl} (i:HasAt c h k h'):Ext h' h k:=⟨λ n hn e=>by
 cases e':h' n with
 | none=>rfl
 | some o=>rcases (i.get n o e').2 with h1 | h1;exact absurd e h1;omega⟩
section
variable (W:World) (h:Hl) (c:World) (n i:Nat)
@[go_sem] theorem cell_md [k:Old n W] [o:Out n h]:(md W h c).cell? ⟨n,i,none⟩=W.cell? ⟨n,i,none⟩:=World.cell?_of_block (md_out W h c k.h o.none)
@[go_sem] theorem frozen_md [k:Old n W] [o:Out n h]:(md W h c).frozen? ⟨n,i,none⟩=W.frozen? ⟨n,i,none⟩:=World.frozen?_of_block (md_out W h c k.h o.none)
@[go_sem] theorem setCell_md (v:Value) [k:Old n W] [o:Out n h]:(md W h c).setCell ⟨n,i,none⟩ v=md (W.setCell ⟨n,i,none⟩ v) h c:=by
 have hk:=k.h
 simp only [md,World.setCell]
 congr 1
 apply Array.ext_getElem?
 intro j
 simp only [Array.getElem?_modify,Array.getElem?_ofFn,Array.size_modify]
 by_cases hj:n=j
 ·subst hj
  rw [if_pos rfl,dif_pos (by omega),if_pos ⟨hk,o.none⟩,dif_pos (by omega),if_pos ⟨hk,o.none⟩]
  simp [hk,Array.getElem_modify]
 ·rw [if_neg hj]
  split
  ·split <;> simp [Array.getElem?_modify,hj]
  ·rfl
@[go_sem] theorem md_drew:(md W h c).drew=md W h c.drew:=rfl
@[go_sem] theorem drew_md:md W.drew h c=md W h c:=rfl
end
instance oldMd (W:World) (h:Hl) (c:World) (n:Nat) [k:Old n W]:Old n (md W h c):=⟨by have:=k.h;rw [md_size];omega⟩
instance uptoMd (W:World) (h:Hl) (c:World) (n:Nat) [k:Upto n W]:Upto n (md W h c):=⟨by have:=k.h;rw [md_size];omega⟩
instance sizeMd (X W:World) (h:Hl) (c:World) [k:SizeIs X W.heap.size]:SizeIs (md X h c) (md W h c).heap.size:=⟨by rw [md_size,md_size,k.h]⟩
instance sizeGr (X W:World) (g:Gr) [k:SizeIs X W.heap.size]:SizeIs (gr X g) (gr W g).heap.size:=⟨by rw [gr_size,gr_size,k.h]⟩
instance hasAlloc (W:World) (o:Obj) (h:Hl) [i:Has W h]:Has (W.alloc o) h:=⟨λ n ob e=>by rw [Below.heap_alloc _ _ _ (i.lt e)];exact i.get n ob e⟩
instance hasGr (W:World) (g:Gr) (h:Hl) [i:Has W h]:Has (gr W g) h:=⟨λ n ob e=>by rw [gr_heap _ _ (i.lt e)];exact i.get n ob e⟩
instance hasDrew (W:World) (h:Hl) [i:Has W h]:Has W.drew h:=⟨i.get⟩
instance hasMd (X:World) (h:Hl) (c:World) (h':Hl) (k:Nat) [i:HasAt c h k h'] [z:SizeIs X k]:Has (md X h c) h':=⟨λ n o e=>by
 obtain ⟨h1,h2⟩:=i.get n o e
 exact md_in X h c h1 (by rw [z.h];exact h2)⟩
instance (priority:=low) outNew (W:World) (h:Hl) [i:Has W h]:Out W.heap.size h:=⟨i.out (Nat.le_refl _)⟩
def Turns (W:World) (h:Hl) (P:Hl->Prop) (w':World):Prop:=Mod h W w'/\∃ h',Has w' h'/\(∀ n,n < W.heap.size->h n=none->h' n=none)/\P h'
theorem Turns.mk {W:World} {h:Hl} {P:Hl->Prop} {w':World} (h':Hl) (m:Mod h W w') (i:Has w' h') (x:∀ n,n < W.heap.size->h n=none->h' n=none) (p:P h'):Turns W h P w':=⟨m,h',i,x,p⟩
theorem Turns.get {W:World} {h:Hl} {P:Hl->Prop} {w':World} (t:Turns W h P w'):∃ c h',w'=md W h c/\HasAt c h W.heap.size h'/\Ext h' h W.heap.size/\P h':=by
 obtain ⟨m,h',i,x,p⟩:=t
 have ia:HasAt w' h W.heap.size h':=⟨λ n o e=>⟨i.get n o e,by
  by_cases hn:n < W.heap.size
  ·left;intro e2;have:=x n hn e2;rw [this] at e;cases e
  ·right;omega⟩⟩
 exact ⟨w',h',m.eq,ia,ia.ext,p⟩
class Fn (f:FuncId) (args:Array Value) (W:World) (v:outParam Value):Prop where
 h:Calls Tryz.prog f args W (Ret v W)
theorem Fn.go {f:FuncId} {args:Array Value} {W:World} {v:Value} {R:Ending->World->Prop} [i:Fn f args W v] (h:∀ g,R (.returned v) (gr W g)):Calls Tryz.prog f args W R :=
 i.h.mono λ _ _ ⟨he,hb⟩=>by obtain ⟨g,rfl⟩:=gr_of_below hb;rw [he];exact h g
theorem Fn.cls {f:FuncId} {args:Array Value} {W:World} {v:Value} {g:Gr} [i:Fn f args (gr W g) v]:Calls Tryz.prog f args (gr W g) λ e w''=>e=.returned v/\∃ p:Gr,w''=gr W p :=
 i.h.mono λ _ _ ⟨he,hb⟩=>⟨he,by obtain ⟨g',h'⟩:=gr_of_below hb;exact ⟨g.seq g',by rw [h',gr_gr]⟩⟩
theorem Fn.own {f:FuncId} {args:Array Value} {W:World} {v:Value} [i:Fn f args W v]:Calls Tryz.prog f args W λ e w''=>e=.returned v/\∃ p:Gr,w''=gr W p :=
 i.h.mono λ _ _ ⟨he,hb⟩=>⟨he,gr_of_below hb⟩
theorem Fn.of {f:FuncId} {args:Array Value} {v:Value} (h:Pure Tryz.prog f args v) (W:World):Fn f args W v:=⟨h W⟩
class FnW (f:FuncId) (args:Array Value) (W:World) (v:outParam Value) (W1:outParam World):Prop where
 h:Calls Tryz.prog f args W λ e w'=>e=.returned v/\∃ g:Gr,w'=gr W1 g
theorem FnW.go {f:FuncId} {args:Array Value} {W W1:World} {v:Value} {R:Ending->World->Prop} [i:FnW f args W v W1] (h:∀ g,R (.returned v) (gr W1 g)):Calls Tryz.prog f args W R :=
 i.h.mono λ _ _ ⟨he,g,hw⟩=>by rw [he,hw];exact h g
class FnX (f:FuncId) (args:Array Value) (W:World) (v:outParam Value) (W1:outParam World):Prop where
 h:Calls Tryz.prog f args W λ e w'=>e=.returned v/\w'=W1
theorem FnX.go {f:FuncId} {args:Array Value} {W W1:World} {v:Value} {R:Ending->World->Prop} [i:FnX f args W v W1] (h:R (.returned v) W1):Calls Tryz.prog f args W R :=
 i.h.mono λ _ _ ⟨he,hw⟩=>by rw [he,hw];exact h
theorem setCell_same {w:World} {b k:Nat} {v:Value} (h:w.cell? ⟨b,k,none⟩=some v):w.setCell ⟨b,k,none⟩ v=w:=by
 have e:w.heap.modify b (fun
   | .cells c elem frozen=>.cells (c.setIfInBounds k v) elem frozen
   | o=>o)=w.heap:=by
  apply Array.ext_getElem?
  intro n
  rw [Array.getElem?_modify]
  by_cases hn:b=n
  ·subst hn
   rw [if_pos rfl]
   unfold World.cell? at h
   cases ho:w.heap[b]? with
   | none=>rfl
   | some o =>
    simp only [ho] at h
    cases o <;> simp at h
    rename_i c t f
    simp only [Option.map_some,Option.some.injEq,Obj.cells.injEq,and_true]
    apply Array.ext_getElem?
    intro j
    rw [Array.getElem?_setIfInBounds]
    by_cases hj:k=j
    ·subst hj
     rw [if_pos rfl,if_pos (Array.getElem?_eq_some_iff.1 h).1,h]
    ·rw [if_neg hj]
  ·rw [if_neg hn]
 exact congrArg (λ hp=>({ w with heap:=hp }:World)) e
theorem qZ {p:Prop} (h:p:=by first | (with_reducible exact Fn.cls) | (with_reducible exact Fn.cls2) | (exact λ _=>rfl)):p:=h
abbrev nZ:=@wpQuiet_nil
def nilB:ByteArray:=⟨#[]⟩
@[go_sem] theorem nilB_size:nilB.size=0:=rfl
def zerosB (n:Nat):ByteArray:=⟨(Lib.repeatL [0] n).toArray⟩
@[go_sem] theorem zerosB_size (n:Nat):(zerosB n).size=n:=by rw [zerosB,<- size_list];simp [Lib.repeatL_length]
def u32S (n:Int):ByteArray:=if 0<=n/\n<=4294967295 then leS n 4 else nilB
def intS (n:Int):ByteArray:=if 0<=n/\n<=4611686018427387903 then leS n 8 else nilB
instance laid4 (X:Int) (W:World):Fn 220 #[.int .u64 X,.int .i64 4] W (.string (leS X 4)):=Fn.of (laid_any X 4 (by omega)) W
instance laid8 (X:Int) (W:World):Fn 220 #[.int .u64 X,.int .i64 8] W (.string (leS X 8)):=Fn.of (laid_any X 8 (by omega)) W
set_option maxRecDepth 512 in
instance u32_fn (n:Int) (W:World):Fn 175 #[.int .i64 n] W (.string (u32S n)):=by
 refine ⟨?_⟩
 by_cases h0:0<=n <;> by_cases h1:n<=4294967295
 all_goals try (exfalso;omega)
 all_goals
  go_enter Tryz.func175,Tryz.ntmps175
  go_wp2_with (with_reducible refine Fn.go λ g=>?_)
  go_ret
  exact Ret.mk (by unfold u32S;first | (rw [if_pos (by omega)];rfl) | (rw [if_neg (by omega)];rfl)) grown
set_option maxRecDepth 512 in
instance u64_fn (n:Int) (W:World):Fn 173 #[.int .u64 n] W (.string (leS n 8)):=by
 refine ⟨?_⟩
 go_enter Tryz.func173,Tryz.ntmps173
 go_wp2_with (with_reducible refine Fn.go λ g=>?_)
 go_ret
 exact Ret.mk rfl grown
set_option maxRecDepth 512 in
instance int_fn (n:Int) (W:World):Fn 120 #[.int .i64 n] W (.string (intS n)):=by
 refine ⟨?_⟩
 by_cases h0:0<=n <;> by_cases h1:n<=4611686018427387903
 all_goals try (exfalso;omega)
 all_goals
  go_enter Tryz.func120,Tryz.ntmps120
  go_wp2_with (with_reducible refine Fn.go λ g=>?_)
  go_ret
  exact Ret.mk (by unfold intS;first | (rw [if_pos (by omega)];rfl) | (rw [if_neg (by omega)];rfl)) grown
def padS (s:ByteArray) (m:Nat):ByteArray:=s++zerosB ((m - s.size % m) % m)
theorem rep_any (n:Nat) (hn:n<=65536) (z:Int) (hz:z=n) (W:World):Fn 138 #[.string ⟨#[0]⟩,.int .i64 z] W (.string (zerosB n)) :=
 ⟨by subst hz;exact (Tryz.strings_Repeat ⟨#[0]⟩ n W (by omega) (by show 1*n<=_;omega)).mono λ e w' h=>h⟩
set_option maxRecDepth 512 in
theorem pad_any (s:ByteArray) (m:Nat) (h0:1<=m) (h1:m<=4096) (hs:s.size<=65536) (W:World):Fn 119 #[.string s,.int .i64 (m:Int)] W (.string (padS s m)):=by
 refine ⟨?_⟩
 have hm:s.size % m < m:=Nat.mod_lt _ (by omega)
 have hn:(m - s.size % m) % m < m:=Nat.mod_lt _ (by omega)
 obtain ⟨n,hd⟩:∃ n,(m - s.size % m) % m=n:=⟨_,rfl⟩
 have e:=Lib.hid (show padS s m=s++zerosB n by rw [<-hd];rfl)
 have hmod:Hid (-((s.size:Int) % (m:Int)) % (m:Int)=n):=by
  rw [<-hd]
  obtain ⟨c,hc⟩:∃ c,s.size % m=c:=⟨_,rfl⟩
  have hi:(s.size:Int) % (m:Int)=c:=by rw [<-hc];rfl
  rw [hc] at hm ⊢
  show -((s.size:Int) % (m:Int)) % (m:Int)=_
  rw [hi,<- Int.add_emod_right,show -(c:Int)+m=((m - c:Nat):Int) by omega]
  rfl
 have c:∀ (W:World) (z:Int),z=n->Fn 138 #[.string ⟨#[0]⟩,.int .i64 z] W (.string (zerosB n)):=λ W z hz=>rep_any n (by omega) z hz W
 have C:=Lib.hid c
 rw [hd] at hn
 have hz:(zerosB n).size<=65536:=by rw [zerosB_size];omega
 clear hd c
 go_enter Tryz.func119,Tryz.ntmps119
 go_wp2_with (go_at_call 138;refine @Fn.go _ _ _ _ _ (C.out _ _ ?h) λ g=>?_;case h=>exact hmod.out)
 go_ret
 exact Ret.mk (by rw [e.out];rfl) grown
class Rdr (b:Nat) (s:outParam ByteArray) (i:outParam Int) (w:World):Prop where
 old:Old b w
 c0:w.cell? ⟨b,0,none⟩=some (.string s)
 c1:w.cell? ⟨b,1,none⟩=some (.int .i64 i)
 fr:w.frozen? ⟨b,1,none⟩=false
instance new_fn (s:ByteArray) (w:World):FnX 80 #[.string s] w (.pointer (some ⟨w.heap.size,0,none⟩)) (w.alloc (.cells #[.string s,.int .i64 0] 239)):=⟨New_at s w⟩
class Bd (s:ByteArray) (i:Int):Prop where
 lo:0<=i
 hi:i<=s.size
 sz:s.size<=65536
instance rdrNew (w:World) (b:Nat) (s:ByteArray) (i:Int) (t:TypeId) [k:SizeIs w b]:Rdr b s i (w.alloc (.cells #[.string s,.int .i64 i] t)) :=
 ⟨ii,by rw [cell_at];rfl,by rw [cell_at];rfl,frozen_at ..⟩
instance rdrGr (b:Nat) (s:ByteArray) (i:Int) (w:World) (g:Gr) [h:Rdr b s i w]:Rdr b s i (gr w g):=by
 haveI:=h.old
 exact ⟨ii,(cell_gr ..).trans h.c0,(cell_gr ..).trans h.c1,(frozen_gr ..).trans h.fr⟩
instance rdrAlloc (b:Nat) (s:ByteArray) (i:Int) (w:World) (o:Obj) [h:Rdr b s i w]:Rdr b s i (w.alloc o):=by
 haveI:=h.old
 exact ⟨ii,(cell_past ..).trans h.c0,(cell_past ..).trans h.c1,(frozen_past ..).trans h.fr⟩
instance rdrSet (b:Nat) (s:ByteArray) (i j:Int) (w:World) [h:Rdr b s i w]:Rdr b s j (w.setCell ⟨b,1,none⟩ (.int .i64 j)):=by
 haveI:=h.old
 have c1:=h.c1
 exact ⟨ii,by simp [go_sem,h.c0],by simp [go_sem,c1],by simp [go_sem,h.fr]⟩
set_option maxRecDepth 512 in
instance left_fn (b:Nat) (s:ByteArray) (i:Int) (w:World) [h:Rdr b s i w] [k:Bd s i]:Fn 200 #[.pointer (some ⟨b,0,none⟩)] w (.int .i64 ((s.size:Int) - i)):=by
 refine ⟨?_⟩
 haveI:=h.old
 have h0:=h.c0
 have h1:=h.c1
 have k0:=k.lo
 have k1:=k.hi
 have k2:=k.sz
 go_enter Tryz.func200,Tryz.ntmps200
 go_wp2_with fail
 (first | (with_reducible refine pl2 (.q [0,1,2,3,4,5,6,7,8,9,10] .d) ?_) | refine pl1 (.q [0,1,2,3,4,5,6,7,8,9,10] .d) ?_);simp only [Plan.run,pick,gZ,gS,gA,gN]
 (repeat go_big_quiet_step (exact qZ));refine nZ ?_;rintro _ ⟨g,rfl⟩
 go_wp2_with fail
 go_ret
 exact Ret.mk rfl grown
def numI (s:ByteArray) (i n:Int):Int:=if i+n<=s.size then (num s i.toNat n.toNat:Int) else 0
def errI (s:ByteArray) (i n:Int):Int:=if i+n<=s.size then 0 else 2
def advI (s:ByteArray) (i n:Int):Int:=if i+n<=s.size then i+n else i
theorem numI_bd (s:ByteArray) (i n:Int) (h:0<=i) (hn:0<=n):0<=numI s i n/\numI s i n < 256 ^ n.toNat:=by
 unfold numI
 split
 ·refine ⟨by omega,?_⟩
  have:=Int.ofNat_lt.2 (num_lt s i.toNat n.toNat (by omega))
  rwa [Int.natCast_pow] at this
 ·exact ⟨by omega,by have:(0:Int) < 256 ^ n.toNat:=Int.pow_pos (by omega);exact this⟩
set_option maxRecDepth 512 in
theorem number_fn (b:Nat) (s:ByteArray) (i:Int) (n:Nat) (hn:n<=8) (w:World) [h:Rdr b s i w] [k:Bd s i] :
  FnW 202 #[.pointer (some ⟨b,0,none⟩),.int .i64 (n:Int)] w (.tuple #[.int .u64 (numI s i n),.int .i64 (errI s i n)]) (w.setCell ⟨b,1,none⟩ (.int .i64 (advI s i n))):=by
 refine ⟨?_⟩
 haveI:=h.old
 have h0:=h.c0
 have h1:=h.c1
 have k0:=k.lo
 have k1:=k.hi
 have k2:=k.sz
 by_cases hl:i+n<=s.size
 ·obtain ⟨j,rfl⟩:=Int.eq_ofNat_of_zero_le k0
  have e1:numI s (j:Int) n=num s j n:=by unfold numI;rw [if_pos hl];simp
  have e2:errI s (j:Int) n=0:=if_pos hl
  have e3:advI s (j:Int) n=((j+n:Nat):Int):=by unfold advI;rw [if_pos hl];simp
  rw [e1,e2,e3]
  exact number_at hn (by omega) (by omega) w ⟨h.old,h0,h1,h.fr⟩
 ·have e1:numI s i n=0:=if_neg hl
  have e2:errI s i n=2:=if_neg hl
  have e3:advI s i n=i:=if_neg hl
  rw [e1,e2,e3,setCell_same h1]
  clear e1 e2 e3
  go_enter Tryz.func202,Tryz.ntmps202
  go_wp2_with (with_reducible refine Fn.go λ g=>?_)
  go_ret2
  exact ⟨rfl,_,rfl⟩
instance number4 (b:Nat) (s:ByteArray) (i:Int) (w:World) [h:Rdr b s i w] [k:Bd s i]:FnW 202 #[.pointer (some ⟨b,0,none⟩),.int .i64 4] w (.tuple #[.int .u64 (numI s i 4),.int .i64 (errI s i 4)]) (w.setCell ⟨b,1,none⟩ (.int .i64 (advI s i 4))):=number_fn b s i 4 (by omega) w
instance number8 (b:Nat) (s:ByteArray) (i:Int) (w:World) [h:Rdr b s i w] [k:Bd s i]:FnW 202 #[.pointer (some ⟨b,0,none⟩),.int .i64 8] w (.tuple #[.int .u64 (numI s i 8),.int .i64 (errI s i 8)]) (w.setCell ⟨b,1,none⟩ (.int .i64 (advI s i 8))):=number_fn b s i 8 (by omega) w
set_option maxRecDepth 512 in
instance u32_rd (b:Nat) (s:ByteArray) (i:Int) (w:World) [h:Rdr b s i w] [k:Bd s i]:FnW 238 #[.pointer (some ⟨b,0,none⟩)] w (.tuple #[.int .i64 (numI s i 4),.int .i64 (errI s i 4)]) (w.setCell ⟨b,1,none⟩ (.int .i64 (advI s i 4))):=by
 refine ⟨?_⟩
 obtain ⟨b0,b1⟩:=numI_bd s i 4 k.lo (by omega)
 have b1:numI s i 4 < 4294967296:=b1
 go_enter Tryz.func238,Tryz.ntmps238
 go_wp2_with (with_reducible refine FnW.go λ g=>?_)
 go_ret2
 exact ⟨rfl,_,rfl⟩
set_option maxRecDepth 512 in
instance u64_rd (b:Nat) (s:ByteArray) (i:Int) (w:World) [h:Rdr b s i w] [k:Bd s i]:FnW 232 #[.pointer (some ⟨b,0,none⟩)] w (.tuple #[.int .u64 (numI s i 8),.int .i64 (errI s i 8)]) (w.setCell ⟨b,1,none⟩ (.int .i64 (advI s i 8))):=by
 refine ⟨?_⟩
 go_enter Tryz.func232,Tryz.ntmps232
 go_wp2_with (with_reducible refine FnW.go λ g=>?_)
 go_ret2
 exact ⟨rfl,_,rfl⟩
def intV (s:ByteArray) (i:Int):Int:=if i+8<=s.size/\numI s i 8<=4611686018427387903 then numI s i 8 else 0
def intE (s:ByteArray) (i:Int):Int:=if i+8<=s.size then (if numI s i 8<=4611686018427387903 then 0 else 3) else 2
def intA (s:ByteArray) (i:Int):Int:=if i+8<=s.size/\numI s i 8<=4611686018427387903 then i+8 else i
@[go_sem] theorem set_set (w:World) (b k:Nat) (u v:Value):(w.setCell ⟨b,k,none⟩ u).setCell ⟨b,k,none⟩ v=w.setCell ⟨b,k,none⟩ v:=by
 simp only [World.setCell]
 congr 1
 apply Array.ext_getElem?
 intro n
 simp only [Array.getElem?_modify]
 by_cases hn:b=n
 ·subst hn
  simp only [if_pos]
  cases w.heap[b]? with
  | none=>rfl
  | some o=>cases o <;> simp
 ·simp [hn]
set_option maxRecDepth 512 in
instance int_rd (b:Nat) (s:ByteArray) (i:Int) (w:World) [h:Rdr b s i w] [k:Bd s i]:FnW 143 #[.pointer (some ⟨b,0,none⟩)] w (.tuple #[.int .i64 (intV s i),.int .i64 (intE s i)]) (w.setCell ⟨b,1,none⟩ (.int .i64 (intA s i))):=by
 refine ⟨?_⟩
 haveI:=h.old
 have h0:=h.c0
 have h1:=h.c1
 have hf:=h.fr
 have k0:=k.lo
 have k1:=k.hi
 have k2:=k.sz
 have b0:=(numI_bd s i 8 k.lo (by omega)).1
 by_cases hl:i+8<=s.size
 ·have e0:advI s i 8=i+8:=if_pos hl
  have e1:errI s i 8=0:=if_pos hl
  by_cases hm:numI s i 8<=4611686018427387903
  ·have f1:intV s i=numI s i 8:=if_pos ⟨hl,hm⟩
   have f2:intE s i=0:=by unfold intE;rw [if_pos hl,if_pos hm]
   have f3:intA s i=i+8:=if_pos ⟨hl,hm⟩
   rw [f1,f2,f3]
   clear f1 f2 f3
   go_enter Tryz.func143,Tryz.ntmps143
   go_wp2_with (with_reducible refine FnW.go λ g=>?_)
   go_ret2
   exact ⟨rfl,_,rfl⟩
  ·have f1:intV s i=0:=if_neg (λ h=>hm h.2)
   have f2:intE s i=3:=by unfold intE;rw [if_pos hl,if_neg hm]
   have f3:intA s i=i:=if_neg (λ h=>hm h.2)
   rw [f1,f2,f3]
   clear f1 f2 f3
   go_enter Tryz.func143,Tryz.ntmps143
   go_wp2_with (with_reducible refine FnW.go λ g=>?_)
   go_ret2
   exact ⟨rfl,_,rfl⟩
 ·have e0:advI s i 8=i:=if_neg hl
  have e1:errI s i 8=2:=if_neg hl
  have f1:intV s i=0:=if_neg (λ h=>hl h.1)
  have f2:intE s i=2:=if_neg hl
  have f3:intA s i=i:=if_neg (λ h=>hl h.1)
  rw [f1,f2,f3]
  clear f1 f2 f3
  go_enter Tryz.func143,Tryz.ntmps143
  go_wp2_with (with_reducible refine FnW.go λ g=>?_)
  go_ret2
  exact ⟨rfl,_,rfl⟩
def takeS (s:ByteArray) (i n:Int):ByteArray:=if i+n<=s.size then s.extract i.toNat (i+n).toNat else nilB
set_option maxRecDepth 512 in
theorem take_rd (b:Nat) (s:ByteArray) (i n:Int) (hn:0<=n) (hn2:n<=65536) (w:World) [h:Rdr b s i w] [k:Bd s i]:FnW 140 #[.pointer (some ⟨b,0,none⟩),.int .i64 n] w (.tuple #[.string (takeS s i n),.int .i64 (errI s i n)]) (w.setCell ⟨b,1,none⟩ (.int .i64 (advI s i n))):=by
 refine ⟨?_⟩
 haveI:=h.old
 have h0:=h.c0
 have h1:=h.c1
 have hf:=h.fr
 have k0:=k.lo
 have k1:=k.hi
 have k2:=k.sz
 by_cases hl:i+n<=s.size
 ·have f1:takeS s i n=s.extract i.toNat (i+n).toNat:=if_pos hl
  have f2:errI s i n=0:=if_pos hl
  have f3:advI s i n=i+n:=if_pos hl
  rw [f1,f2,f3]
  clear f1 f2 f3
  go_enter Tryz.func140,Tryz.ntmps140
  go_wp2_with (with_reducible refine Fn.go λ g=>?_)
  (first | (with_reducible refine pl2 (.q [0,1,2,3,4,5,6,7,8,9,10,11,12,13,14,15,16] .d) ?_) | refine pl1 (.q [0,1,2,3,4,5,6,7,8,9,10,11,12,13,14,15,16] .d) ?_);simp only [Plan.run,pick,gZ,gS,gA,gN]
  (repeat go_big_quiet_step (exact qZ));refine nZ ?_;rintro _ ⟨g,rfl⟩
  go_wp2_with fail
  go_ret2
  exact ⟨rfl,_,rfl⟩
 ·have f1:takeS s i n=nilB:=if_neg hl
  have f2:errI s i n=2:=if_neg hl
  have f3:advI s i n=i:=if_neg hl
  rw [f1,f2,f3,setCell_same h1]
  clear f1 f2 f3
  go_enter Tryz.func140,Tryz.ntmps140
  go_wp2_with (with_reducible refine Fn.go λ g=>?_)
  go_ret2
  exact ⟨rfl,_,rfl⟩
class Sz (s:ByteArray):Prop where
 h:s.size<=9223372036854775807
def trimS (s:ByteArray):ByteArray:=⟨(Lib.trimB s.data.toList 0).toArray⟩
instance trim_fn (s:ByteArray) (w:World) [h:Sz s]:Fn 144 #[.string s,.string ⟨#[0]⟩] w (.string (trimS s)) :=
 ⟨(Tryz.strings_Trim_one s 0 (by decide) w h.h).mono λ e w' ⟨he,hw⟩=>⟨he,by rcases hw with rfl | rfl;exact Below.refl _ _;exact (Below.refl _ _).drew⟩⟩
instance szExtract (s:ByteArray) (i j:Nat) [h:Sz s]:Sz (s.extract i j):=⟨by have:=h.h;rw [ByteArray.size_extract];omega⟩
def zeroI (s:ByteArray) (i:Int):Bool:=(trimS (s.extract i.toNat s.size)).toList.isEmpty
set_option maxRecDepth 512 in
instance zeros_rd (b:Nat) (s:ByteArray) (i:Int) (w:World) [h:Rdr b s i w] [k:Bd s i]:Fn 83 #[.pointer (some ⟨b,0,none⟩)] w (.bool (zeroI s i)):=by
 refine ⟨?_⟩
 haveI:=h.old
 have h0:=h.c0
 have h1:=h.c1
 have k0:=k.lo
 have k1:=k.hi
 have k2:=k.sz
 haveI:Sz s:=⟨by omega⟩
 go_enter Tryz.func83,Tryz.ntmps83
 go_wp2_with fail
 (first | (with_reducible refine pl2 (.q [0,1,2,3,4,5,6,7,8,9,10,11,12,13,14,15] .d) ?_) | refine pl1 (.q [0,1,2,3,4,5,6,7,8,9,10,11,12,13,14,15] .d) ?_);simp only [Plan.run,pick,gZ,gS,gA,gN]
 (repeat go_big_quiet_step (exact qZ));refine nZ ?_;rintro _ ⟨g,rfl⟩
 go_wp2_with fail
 go_ret
 exact Ret.mk rfl grown
theorem ba_ext {a b:ByteArray} (h:a.data.toList=b.data.toList):a=b:=by
 cases a with
 | mk x =>
  cases b with
  | mk y =>
   have:x=y:=Array.toList_inj.1 h
   rw [this]
theorem cat_list (a b:ByteArray):(a++b).data.toList=a.data.toList++b.data.toList:=by simp [ByteArray.data_append]
theorem cat_size (a b:ByteArray):(a++b).size=a.size+b.size:=by rw [<-size_list,cat_list,List.length_append,size_list,size_list]
def sum4 (s:ByteArray):S4:=sums zero4 (wordsL (pad4 s))
theorem run_equal_s4 (w:World) (a b c d e f g h:Nat):(Op.equalIn 10000 48 (.agg #[.int .u64 (a:Int),.int .u64 (b:Int),.int .u64 (c:Int),.int .u64 (d:Int)]) (.agg #[.int .u64 (e:Int),.int .u64 (f:Int),.int .u64 (g:Int),.int .u64 (h:Int)])).run Tryz.prog w
  = .ok (decide ((⟨a,b,c,d⟩:S4)=⟨e,f,g,h⟩)) w:=by
 have hi:∃ i,Tryz.prog.info? 46=some i:=Option.isSome_iff_exists.1 (by kernel_rfl)
 obtain ⟨i,hi⟩:=hi
 have hc:Tryz.prog.cellsOf 46=1:=by kernel_rfl
 have hk:Tryz.prog.plainKey 46=true:=by kernel_rfl
 have hp:∀ (xs:Array Value) (o:Nat) (v:Value),xs[o]?=some v->(part 46 xs o).run Tryz.prog w=.ok v w:=λ xs o v h=>run_part_plain w hk h
 have heq:∀ x y:Int,(Op.equalIn 9999 46 (.int .u64 x) (.int .u64 y)).run Tryz.prog w=.ok (x == y) w:=λ x y=>run_equalIn_int (P:=Tryz.prog) w 9998 46 .u64 .u64 x y Tryz.underlying46
 have h0:∀ xs ys:Array Value,(Op.equalIn 10000 48 (.agg xs) (.agg ys)).run Tryz.prog w=(Op.eqItems 9999 46 1 xs ys [0,1,2,3]).run Tryz.prog w:=λ xs ys=>by
  have:=run_equalIn_array (P:=Tryz.prog) w 9999 xs ys Tryz.underlying48 hi
  rw [hc] at this
  exact this
 rw [h0]
 have p0:∀ u x y z:Value,(part 46 #[u,x,y,z] (0*1)).run Tryz.prog w=.ok u w:=λ u x y z=>hp _ _ _ rfl
 have p1:∀ u x y z:Value,(part 46 #[u,x,y,z] (1*1)).run Tryz.prog w=.ok x w:=λ u x y z=>hp _ _ _ rfl
 have p2:∀ u x y z:Value,(part 46 #[u,x,y,z] (2*1)).run Tryz.prog w=.ok y w:=λ u x y z=>hp _ _ _ rfl
 have p3:∀ u x y z:Value,(part 46 #[u,x,y,z] (3*1)).run Tryz.prog w=.ok z w:=λ u x y z=>hp _ _ _ rfl
 have hbeq:∀ x y:Nat,((x:Int) == (y:Int))=decide (x=y):=λ x y=>by
  by_cases h:x=y
  ·simp [h]
  ·have h2:¬ (x:Int)=(y:Int):=by omega
   simp [h,h2]
 simp only [Nat.mul_one] at p0 p1 p2 p3
 by_cases h1:a=e <;> by_cases h2:b=f <;> by_cases h3:c=g <;> by_cases h4:d=h <;> simp [Op.eqItems,Sem.run_bind,p0,p1,p2,p3,heq,hbeq,h1,h2,h3,h4,Result.andThen]
theorem run_eql_s4 (w:World) (a b c d e f g h:Nat):(binOp .eql 48 (.agg #[.int .u64 (a:Int),.int .u64 (b:Int),.int .u64 (c:Int),.int .u64 (d:Int)]) (.agg #[.int .u64 (e:Int),.int .u64 (f:Int),.int .u64 (g:Int),.int .u64 (h:Int)])).run Tryz.prog w
  = .ok (.bool (decide ((⟨a,b,c,d⟩:S4)=⟨e,f,g,h⟩))) w:=by
 simp [go_sem,run_equal_s4,Result.andThen]
theorem Sum4_any (s:ByteArray) (hs:s.size < 4611686018427387900):Pure Tryz.prog 122 #[.string s] (sum4 s).v:=Sum_any s hs
def S4.nth (x:S4):Nat->Nat
 | 0=>x.a
 | 1=>x.b
 | 2=>x.c
 | _=>x.d
def bs (x:S4):Nat->ByteArray
 | 0=>⟨#[]⟩
 | k+1=>bs x k++leS (x.nth k) 8
@[go_sem] theorem bs_size (x:S4):∀ k:Nat,(bs x k).size=8*k
 | 0=>rfl
 | k+1=>by rw [bs,cat_size,bs_size x k,leS_size];omega
theorem run_ix (w:World) (x:S4) (k:Nat) (hk:k < 4):(Instr.index 48 (.agg #[.int .u64 (x.a:Int),.int .u64 (x.b:Int),.int .u64 (x.c:Int),.int .u64 (x.d:Int)]) (.int .i64 (k:Int))).run Tryz.prog w=.ok (.int .u64 (x.nth k:Int)) w:=by
 have hi:∃ i,Tryz.prog.info? 46=some i:=Option.isSome_iff_exists.1 (by kernel_rfl)
 obtain ⟨i,hi⟩:=hi
 have hc:Tryz.prog.cellsOf 46=1:=by kernel_rfl
 have hk':Tryz.prog.plainKey 46=true:=by kernel_rfl
 have hp:(part 46 #[.int .u64 (x.a:Int),.int .u64 (x.b:Int),.int .u64 (x.c:Int),.int .u64 (x.d:Int)] k).run Tryz.prog w=.ok (.int .u64 (x.nth k:Int)) w:=by
  refine run_part_plain w hk' ?_
  rcases (show k=0\/k=1\/k=2\/k=3 by omega) with rfl | rfl | rfl | rfl <;> rfl
 simp [Instr.index,run_underlying Tryz.underlying48,asIntOf,run_sizeOf w hi,hc,hp]
 intro h;omega
set_option maxRecDepth 512 in
theorem U64_le (n:Nat):Pure Tryz.prog 173 #[.int .u64 (n:Int)] (.string (leS n 8)):=by
 intro w
 have c:Pure Tryz.prog 220 #[.int .u64 (n:Int),.int .i64 8] (.string (leS n 8)):=laid_any n 8 (by omega)
 go_enter Tryz.func173,Tryz.ntmps173
 go_wp2_with (go_at_call 220;with_reducible refine (c.at _).mono ?_;rintro e w' ⟨rfl,g,rfl⟩)
 go_ret
 exact Ret.mk rfl grown
set_option maxRecDepth 512 in
theorem Bytes_any (x:S4):Pure Tryz.prog 121 #[x.v] (.string (bs x 4)):=by
 intro w
 have hix:=λ W:World=>run_ix W x
 simp only [S4.v,S4.cs]
 obtain ⟨x0,hx0⟩:∃ y:Int,(x.a:Int)=y:=⟨_,rfl⟩
 obtain ⟨x1,hx1⟩:∃ y:Int,(x.b:Int)=y:=⟨_,rfl⟩
 obtain ⟨x2,hx2⟩:∃ y:Int,(x.c:Int)=y:=⟨_,rfl⟩
 obtain ⟨x3,hx3⟩:∃ y:Int,(x.d:Int)=y:=⟨_,rfl⟩
 rw [hx0,hx1,hx2,hx3] at hix ⊢
 have HX:=Lib.hid hix
 clear hix hx0 hx1 hx2 hx3
 go_enter Tryz.func121,Tryz.ntmps121
 go_wp2_with fail
 go_loopw [3,7] (λ v i wr=>∃ k:Nat,k<=4/\i=.int .i64 k/\v=.string (bs x k)/\∃ g:Gr,wr=gr (w.alloc (.cells #[.int .u64 x0,.int .u64 x1,.int .u64 x2,.int .u64 x3] 48)) g)
  (λ _ i _=>4 - (intOf i).toNat)
 case atStart=>exact ⟨0,by omega,rfl,rfl,ex_gr _⟩
 case round =>
  obtain ⟨k,hk,rfl,rfl,g,rfl⟩:=hrel
  by_cases hlt:k < 4
  ·have hxk:=λ W:World=>HX.out W k hlt
   have c:=U64_le (x.nth k)
   have hbs:bs x k++leS (x.nth k) 8=bs x (k+1):=rfl
   have HB:=Lib.hid hbs
   clear hbs
   obtain ⟨y,hy⟩:∃ y:Int,((x.nth k:Nat):Int)=y:=⟨_,rfl⟩
   obtain ⟨L,hL⟩:∃ L:ByteArray,leS (x.nth k:Int) 8=L:=⟨_,rfl⟩
   have hLs:L.size=8:=by rw [<-hL,leS_size]
   rw [hL] at c HB
   rw [hy] at c
   clear hL
   simp only [hy] at hxk
   clear hy
   go_wp2_with (go_at_call 173;with_reducible refine (c.at _).mono ?_;rintro e w' ⟨rfl,g1,rfl⟩)
   go_roundw
   case rel=>exact ⟨k+1,by omega,by go_num,by rw [HB.out],_,rfl⟩
   case measure=>simp [intOf];omega
  ·obtain rfl:k=4:=by omega
   go_wp2_with fail
   go_ret
   exact Ret.mk rfl grown
theorem numI_nat (s:ByteArray) (i:Int) (h:0<=i):max (numI s i 8) 0=numI s i 8:=by have:=(numI_bd s i 8 h (by omega)).1;omega
def rdS4 (s:ByteArray) (i:Int):S4:=⟨(numI s i 8).toNat,(numI s (i+8) 8).toNat,(numI s (i+16) 8).toNat,(numI s (i+24) 8).toNat⟩
set_option maxRecDepth 512 in
theorem fread_rd (b:Nat) (s:ByteArray) (i:Int) (w:World) [h:Rdr b s i w] (h0:0<=i) (h1:i+32<=s.size) (hs:s.size<=65536) :
  FnW 191 #[.pointer (some ⟨b,0,none⟩)] w (.tuple #[.agg #[.int .u64 (rdS4 s i).a,.int .u64 (rdS4 s i).b,.int .u64 (rdS4 s i).c,.int .u64 (rdS4 s i).d],.int .i64 0]) (w.setCell ⟨b,1,none⟩ (.int .i64 (i+32))):=by
 refine ⟨?_⟩
 haveI:=h.old
 haveI:Bd s i:=⟨by omega,by omega,by omega⟩
 haveI:Bd s (i+8):=⟨by omega,by omega,by omega⟩
 haveI:Bd s (i+16):=⟨by omega,by omega,by omega⟩
 haveI:Bd s (i+24):=⟨by omega,by omega,by omega⟩
 have a0:advI s i 8=i+8:=if_pos (by omega)
 have a1:advI s (i+8) 8=i+16:=(if_pos (by omega)).trans (by omega)
 have a2:advI s (i+16) 8=i+24:=(if_pos (by omega)).trans (by omega)
 have a3:advI s (i+24) 8=i+32:=(if_pos (by omega)).trans (by omega)
 have b0:errI s i 8=0:=if_pos (by omega)
 have b1:errI s (i+8) 8=0:=if_pos (by omega)
 have b2:errI s (i+16) 8=0:=if_pos (by omega)
 have b3:errI s (i+24) 8=0:=if_pos (by omega)
 go_enter Tryz.func191,Tryz.ntmps191
 go_wp2_with fail
 refine wp_loop_rounds 5 ?_
 iterate 5 (rw [rounds_succ];go_wp2_with (with_reducible refine FnW.go λ g=>?_))
 refine bodyPost_ret ?_ rfl ⟨rfl,gr_of_below grown⟩
 simp [results,Tryz.results191,go_sem,rdS4,numI_nat,h0,show 0<=i+8 by omega,show 0<=i+16 by omega,show 0<=i+24 by omega]
end Go.Proofs.YtlfjdjndhcmliaaGreatDoor
