/- WholeOld, part 1. -/
import Derived.RangeFuncNested
import Derived.RangeFuncCalls
import Derived.RangeFuncLeaves
import Derived.WalkKit
import Derived.OwnWalkIn
import Derived.TacticsInMore
import Derived.LoopNIn
import Derived.LoopIn
import Derived.Test.YtlfjdjndhcmliaaGreatDoorA00
import Derived.Shelf.Strings.Builder1
import Derived.Shelf.Strings.Builder2
import Derived.Shelf.Strings.OnBuilder
import Derived.Shelf.Strings.Trim
import Derived.Shelf.Small.Utf8
import Derived.Shelf.Small.Bits
import Derived.Shelf.Small.Strs
import Derived.Shelf.Small.Wraps
import Derived.Shelf.Strings.BuilderF
import Derived.Shelf.Strconv.Itoa0
import Derived.Shelf.Strings.Search1
import Derived.Shelf.Sort.Plain
import Derived.Shelf.Strings.Prefix
import Derived.Shelf.Unicode.Decode
import Derived.Shelf.Strings.Runes
import Derived.Shelf.Strings.AsciiSet
import Derived.Shelf.Bits.Mul64
import Derived.Shelf.Strings.Repeat
import Derived.Shelf.Unicode.DecodeSlow
import Derived.Shelf.Unicode.DecodeAny
import Derived.Shelf.Unicode.DecodeLast
import Derived.Shelf.Slices.Turned
import Derived.Ground.Names2Prog
import Derived.Shelf.Slices.Clone
import Derived.Shelf.Slices.CompactI
import Derived.Shelf.Slices.SearchI
import Derived.Shelf.Slices.Cells
import Derived.Ground.SlgnProg
import Derived.Shelf.SlicesE.Clone
import Derived.Test.YtlfjdjndhcmliaaGreatDoorProg
import Derived.Laws.BitsLemmas
import Derived.StillTail
import Derived.Test.YtlfjdjndhcmliaaGreatDoorChecked
import Derived.Handy
set_option maxRecDepth 100000
set_option maxHeartbeats 4000000
set_option linter.all false
namespace Go.Proofs.YtlfjdjndhcmliaaGreatDoor
open Go.RowKit Go.Sort
structure Kept(B:Nat)(W W':World):Prop where
 size:W.heap.size<=W'.heap.size
 same:∀ k,B<=k->k<W.heap.size->W'.heap[k]?=W.heap[k]?
theorem Kept.trans{B:Nat}{X Y Z:World}(h:Kept B X Y)(k:Kept B Y Z):Kept B X Z:=⟨Nat.le_trans h.size k.size,λ i hB hi=>(k.same i hB (Nat.lt_of_lt_of_le hi h.size)).trans (h.same i hB hi)⟩
theorem Kept.mono{B B':Nat}{W W':World}(h:Kept B W W')(hB:B<=B'):Kept B' W W':=⟨h.size,λ k hk=>h.same k (Nat.le_trans hB hk)⟩
theorem Kept.of_below{B:Nat}{W W':World}(h:Below W.heap.size W W'):Kept B W W':=⟨h.size,λ k _ hk=>h.block k hk⟩
theorem Kept.gr(B:Nat)(W:World)(g:Gr):Kept B W (gr W g):=.of_below (Yb W g)
def From{β:Type}(B:Nat)(I:β->World->Prop):Prop:=∀ s W W',I s W->Below B W W'->I s W'
def Zf2{α:Type}(P:Program)(g:Nat)(lb:Array Value)(encs:α->Array Value)(S:List α->Prop)(w:World):Prop :=
 ∀(l:Nat)(J Jx:List α->World->Prop)(W:World),Below w.heap.size w W->From W.heap.size J->From W.heap.size Jx ->
  (∀ m pre x W1,J pre W1->(∃ xs,S xs/\pre++[x] <+: xs)->YieldAt Fence.wide m P l (encs x) W1 λ e W' =>
   (e=.returned (.bool true)/\J (pre++[x]) W'/\Kept W.heap.size W1 W')\/(e=.returned (.bool false)/\Jx (pre++[x]) W')) ->
  J [] W ->
  Calls P g (#[.func (.yield l) #[] #[]]++lb) W λ e W'=>(∃ v,e=.returned v)/\((∃ xs,S xs/\J xs W')\/(∃ pre xs,S xs/\pre <+: xs/\Jx pre W'))
def Zhl{α:Type}(B:Nat)(I:List α->World->Prop)(Ix:Code->List α->World->Prop)(xs:List α)(W:World):Exit->Act->World->Prop
 | .normal,_,W'=>Kept B W W'/\I xs W'
 | .ret,_,W'=>Kept B W W'/\Ix .ret xs W'
 | .exit id,_,W'=>Kept B W W'/\Ix (.exit id) xs W'
 | .goto t,_,W'=>Kept B W W'/\Ix (.goto t) xs W'
 | .panic _,_,_=>False
 | .outgrown,_,_=>False
theorem Xw{B:Nat}(W:World)(l:Nat)(o o':Obj)(hl:B<=l)(_:W.heap[l]?=some o)(hB:B<=W.heap.size):Below B W (W.putObj l o') :=
 (Below.refl B W).grown (grownBy_putObj' W l o') hB (λ k e=>by cases e;exact hl)
theorem kM{P:Program}{n:Nat}{α:Type}{g:Operand}{ps:Array Tmp}{assign body:Code}{Q:Exit->Act->World->Prop}{a:Act}{w:World}
  {gf:Nat} {lb:Array Value} (hg:a.eval g=.func (.func gf) #[] lb) (eg:∀ args w,(callFunc gf args).run P w=.ok (.enter gf args) w)
  {encs:α->Array Value} {S:List α->Prop} {w0:World} (hseq:Zf2 P gf lb encs S w0) (hb0:Below w0.heap.size w0 w) (hps:∀ x,(encs x).size=ps.size)
  (I:List α->World->Prop) (Ix:Code->List α->World->Prop) (hI:From w.heap.size I) (hIx:∀ c,From w.heap.size (Ix c)) (h0:I [] w) (a₁:α->Act)
  (hassign:∀(l m:Nat)(x:α)(W:World)(K:Act->World->Prop),K (a₁ x) W ->
   assign.wpIn (Fence.wide.inRound l) m P (Exit.then K (λ _ _ _=>False)) { tmps:=(ps.zip (encs x)).foldl (λ t (p,v)=>t.setIfInBounds p v) a.tmps,defers:=[] } W)
  (hbody:∀(l m:Nat)(pre:List α)(x:α)(W:World),I pre W->(∃ xs,S xs/\pre++[x] <+: xs)->body.wpIn (Fence.wide.inRound l) m P (Zhl w.heap.size I Ix (pre++[x]) W) (a₁ x) W)
  (hdone:∀(D:Nat)(xs:List α)(W:World),w.heap.size<=D->S xs->I xs W->W.heap[D]?=some (.deferred (some []))->Q .normal { a with defers:={ target:=.collected D,args:=#[] }::a.defers } W)
  (hstop:∀(D:Nat)(c:Code)(pre:List α)(W:World),w.heap.size<=D->(∃ xs,S xs/\pre <+: xs)->Ix c pre W->W.heap[D]?=some (.deferred (some []))->c.wpIn Fence.wide n P Q { a with defers:={ target:=.collected D,args:=#[] }::a.defers } W) :
  (Code.rangeFunc g ps assign body).wpIn Fence.wide n P Q a w:=by
 refine wpIn_rangeFunc ?_;intro fn hfn;rw [show Fence.wide.round=none from rfl];obtain⟨rec,hrec⟩:∃ rec:LoopState->Option Code->Loop,rec=λ st pe=>{ state:=st,pending:=pe,fn,tmps:=a.tmps,params:=ps,assign,body,defers:=w.heap.size }:=⟨_,rfl⟩
 obtain⟨W1,hW1⟩:∃ W1,(w.alloc (.deferred (some []))).alloc (.loop (rec .ready none))=W1:=⟨_,rfl⟩
 have hs1:W1.heap.size=w.heap.size+2:=by rw [<-hW1];simp
 have hL1:W1.heap[w.heap.size+1]?=some (.loop (rec .ready none)):=by
  rw [<-hW1];have:=World.alloc_heap_new (w.alloc (.deferred (some []))) (.loop (rec .ready none));rwa [World.size_alloc]at this
 have hK1:W1.heap[w.heap.size]?=some (.deferred (some [])):=by
  rw [<-hW1];exact(Below.heap_alloc _ _ _ (by simp)).trans (World.alloc_heap_new w _)
 have hbw:Below w.heap.size w W1:=by rw [<-hW1];exact((Below.refl _ w).alloc (Nat.le_refl _) _).alloc (by simp) _
 have hI1:I [] W1:=hI _ _ _ h0 hbw;have hb1:Below w0.heap.size w0 W1:=hb0.trans (hbw.mono hb0.size)
 refine⟨w.heap.size+1,[{ target:=.collected w.heap.size,args:=#[] }],W1,{ target:=.fn (.func gf) lb,args:=#[.func (.yield (w.heap.size+1)) #[] #[]] },W1,gf,
  #[.func (.yield (w.heap.size+1)) #[] #[]]++lb,W1,?_,?_,?_,?_,λ h=>(by simp [Fence.wide]at h),?_⟩
 ·rw [<-hW1,hrec];exact run_enterLoop_outer _ _ _ _ _
 ·simp only [resolve,hg];simp [go_sem]
 ·intro f' hf';trivial
 ·simp [invoke,go_sem,eg]
 ·refine callsIn_wide.2 ?_
  refine(hseq (w.heap.size+1)
   (λ pre W=>I pre W/\W.heap[w.heap.size+1]?=some (.loop (rec .ready none))/\W.heap[w.heap.size]?=some (.deferred (some [])))
   (λ pre W=>∃ c,Ix c pre W/\W.heap[w.heap.size+1]?=some (.loop (rec .done (some c)))/\W.heap[w.heap.size]?=some (.deferred (some [])))
   W1 hb1
   (λ s A B hs hab=>⟨hI s A B hs.1 (hab.mono (by omega)),(hab.block _ (by omega)).trans hs.2.1,(hab.block _ (by omega)).trans hs.2.2⟩)
   (λ s A B hs hab=>by
    obtain⟨c,hc,hl,hk⟩:=hs
    exact⟨c,hIx c s A B hc (hab.mono (by omega)),(hab.block _ (by omega)).trans hl,(hab.block _ (by omega)).trans hk⟩)
   ?_ ⟨hI1,hL1,hK1⟩).mono ?_
  ·-- one round
   rintro m pre x W ⟨hi,hl,hk⟩ hpre;have hlt:w.heap.size+1<W.heap.size:=(Array.getElem?_eq_some_iff.1 hl).1;have hy:=run_yield (P:=P) (args:=encs x) hl (by rw [hrec];exact hps x);rw [hrec]at hy;refine⟨fn,_,assign,body,hy,roundIn_of_wpIn hfn (hassign _ _ x W _ ⟨_,run_beginRound hl (by rw [hrec]),?_⟩)⟩;have hl2:(W.putObj (w.heap.size+1) (.loop { rec .ready none with state:=.busy })).heap[w.heap.size+1]?=some (.loop { rec .ready none with state:=.busy }):=World.putObj_heap_same hlt;have hk2:(W.putObj (w.heap.size+1) (.loop { rec .ready none with state:=.busy })).heap[w.heap.size]?=some (.deferred (some [])):=(World.putObj_heap_other (by omega)).trans hk;have hz2:(W.putObj (w.heap.size+1) (.loop { rec .ready none with state:=.busy })).heap.size=W.heap.size:=by simp [World.putObj]
   have hp2:∀(V:World)(o:Obj),Kept W1.heap.size V (V.putObj (w.heap.size+1) o):=λ V o=>⟨by simp [World.putObj],λ k hk _=>World.putObj_heap_other (by omega)⟩
   have hi2:=hI _ _ _ hi (Xw W (w.heap.size+1) _ (.loop { rec .ready none with state:=.busy }) (by omega) hl (by omega));refine wpIn_mono (hbody _ _ pre x _ hi2 hpre) ?_
   have fin:∀(jump:Option Code)(W3:World),Kept w.heap.size (W.putObj (w.heap.size+1) (.loop { rec .ready none with state:=.busy })) W3 ->
     (Instr.endRound (w.heap.size+1) jump).run P W3=.ok (.bool jump.isNone) (W3.putObj (w.heap.size+1) (.loop (rec (if jump.isNone then .ready else .done) jump))) /\
     W3.heap[w.heap.size+1]?=some (.loop { rec .ready none with state:=.busy }) /\
     (W3.putObj (w.heap.size+1) (.loop (rec (if jump.isNone then .ready else .done) jump))).heap[w.heap.size+1]?=some (.loop (rec (if jump.isNone then .ready else .done) jump)) /\
     (W3.putObj (w.heap.size+1) (.loop (rec (if jump.isNone then .ready else .done) jump))).heap[w.heap.size]?=some (.deferred (some [])) /\
     Below w.heap.size W3 (W3.putObj (w.heap.size+1) (.loop (rec (if jump.isNone then .ready else .done) jump))):=λ jump W3 hk3=>by
    have hl3:=(hk3.same _ (by omega) (by omega)).trans hl2;have hkk:=(hk3.same _ (Nat.le_refl _) (by omega)).trans hk2;have hsz:=hk3.size;have:=run_endRound (P:=P) jump hl3;rw [hrec]at this ⊢;exact⟨this,by rw [hrec]at hl3;exact hl3,World.putObj_heap_same (Array.getElem?_eq_some_iff.1 hl3).1,(World.putObj_heap_other (by omega)).trans hkk,Xw _ _ _ _ (by omega) hl3 (by omega)⟩
   rintro e a3 W3 hp;cases e with
   |normal =>
    obtain⟨hk3,hi3⟩:=hp;obtain⟨hr,hl3,hl4,hk4,hb4⟩:=fin none W3 hk3;exact⟨_,_,hr,.inl ⟨rfl,⟨hI _ _ _ hi3 hb4,hl4,hk4⟩,((hp2 W _).trans (hk3.mono (by omega))).trans (hp2 _ _)⟩⟩
   |ret =>
    obtain⟨hk3,hi3⟩:=hp;obtain⟨hr,hl3,hl4,hk4,hb4⟩:=fin (some .ret) W3 hk3;exact⟨_,_,hr,.inr ⟨rfl,.ret,hIx _ _ _ _ hi3 hb4,hl4,hk4⟩⟩
   |exit id =>
    obtain⟨hk3,hi3⟩:=hp;obtain⟨hr,hl3,hl4,hk4,hb4⟩:=fin (some (.exit id)) W3 hk3;exact⟨_,_,hr,.inr ⟨rfl,.exit id,hIx _ _ _ _ hi3 hb4,hl4,hk4⟩⟩
   |goto t =>
    obtain⟨hk3,hi3⟩:=hp;obtain⟨hr,hl3,hl4,hk4,hb4⟩:=fin (some (.goto t)) W3 hk3;exact⟨_,_,hr,.inr ⟨rfl,.goto t,hIx _ _ _ _ hi3 hb4,hl4,hk4⟩⟩
   |panic ch=>exact hp.elim
   |outgrown=>exact hp.elim
  ·-- behind the iterator
   rintro e W2 ⟨⟨v,rfl⟩,(⟨xs,hS,hi,hl,hk⟩|⟨pre,xs,hS,hpre,c,hi,hl,hk⟩)⟩
   ·have hlt:w.heap.size+1<W2.heap.size:=(Array.getElem?_eq_some_iff.1 hl).1;exact⟨none,_,by have:=run_endLoop (P:=P) hl (by rw [hrec];simp);rw [hrec]at this;exact this,hdone _ xs _ (Nat.le_refl _) hS (hI _ _ _ hi (Xw _ _ _ _ (by omega) hl (by omega))) ((World.putObj_heap_other (by omega)).trans hk)⟩
   ·have hlt:w.heap.size+1<W2.heap.size:=(Array.getElem?_eq_some_iff.1 hl).1;exact⟨some c,_,by have:=run_endLoop (P:=P) hl (by rw [hrec];simp);rw [hrec]at this;exact this,hstop _ c pre _ (Nat.le_refl _) ⟨xs,hS,hpre⟩ (hIx _ _ _ _ hi (Xw _ _ _ _ (by omega) hl (by omega))) ((World.putObj_heap_other (by omega)).trans hk)⟩
theorem Zjq{β:Type}{B:Nat}(f:β->World)(hf:∀ s,(f s).heap.size=B):From B (λ s W=>∃ g:Gr,W=gr (f s) g):=by
 rintro s W W' ⟨g,rfl⟩ hb;have h:=Yb (f s) g;rw [hf s]at h;have h':=h.trans hb;rw [<-hf s]at h';exact Zf h'
theorem Zej{β:Type}{B:Nat}(p:β->Prop):From B (λ s (_:World)=>p s):=λ _ _ _ hs _=>hs
end Go.Proofs.YtlfjdjndhcmliaaGreatDoor
namespace Go.Proofs
open Go.Shelf
def Tryz.lays169_ren:Go.Shelf.Ren:=⟨λ|169=>79|n=>n,λ|70=>158|9=>9|0=>0|72=>160|37=>99|127=>237|3=>3|5=>5|n=>n,λ|n=>n⟩
theorem Tryz.Builder_Extra_169:Builder.Extra Tryz.prog Tryz.lays169_ren:={
 sizeBuilder:=by kernel_rfl
 liesBuilder:=by kernel_rfl
 t5:=Tryz.underlying5
 a5:=Tryz.isAgg5
 z5:=Tryz.sizeOf5
 v5:=Tryz.zeroValue5
 infoByte:=by kernel_rfl
 cellsByte:=by kernel_rfl
 sizeByte:=by kernel_rfl
 neB5:=by decide }
def Tryz.lays156_ren:Go.Shelf.Ren:=⟨λ|156=>356|165=>197|166=>78|169=>79|240=>139|241=>237|276=>199|277=>260|n=>n,λ|31=>101|9=>9|3=>3|4=>4|0=>0|20=>20|72=>160|76=>164|70=>158|37=>99|75=>163|127=>237|164=>297|5=>5|80=>166|n=>n,λ|n=>n⟩
theorem Tryz.lays156:Go.Proofs.Lays.n156 Tryz.prog Tryz.lays156_ren:={
 mixed:=by kernel_rfl
 f156:=Tryz.func356.trans (congrArg some (by kernel_rfl))
 f165:=Tryz.func197.trans (congrArg some (by kernel_rfl))
 f166:=Tryz.func78.trans (congrArg some (by kernel_rfl))
 f169:=Tryz.func79.trans (congrArg some (by kernel_rfl))
 f240:=Tryz.func139.trans (congrArg some (by kernel_rfl))
 f241:=Tryz.func237.trans (congrArg some (by kernel_rfl))
 f276:=Tryz.func199.trans (congrArg some (by kernel_rfl))
 f277:=Tryz.func260.trans (congrArg some (by kernel_rfl))
 t0:=Tryz.underlying0
 a0:=Tryz.isAgg0
 z0:=Tryz.sizeOf0
 v0:=Tryz.zeroValue0
 t3:=Tryz.underlying3
 a3:=Tryz.isAgg3
 z3:=Tryz.sizeOf3
 v3:=Tryz.zeroValue3
 t4:=Tryz.underlying4
 a4:=Tryz.isAgg4
 z4:=Tryz.sizeOf4
 v4:=Tryz.zeroValue4
 t9:=Tryz.underlying9
 a9:=Tryz.isAgg9
 z9:=Tryz.sizeOf9
 v9:=Tryz.zeroValue9
 t20:=Tryz.underlying20
 a20:=Tryz.isAgg20
 z20:=Tryz.sizeOf20
 v20:=Tryz.zeroValue20
 t31:=Tryz.underlying101
 a31:=Tryz.isAgg101
 z31:=Tryz.sizeOf101
 v31:=Tryz.zeroValue101
 t37:=Tryz.underlying99
 a37:=Tryz.isAgg99
 z37:=Tryz.sizeOf99
 v37:=Tryz.zeroValue99
 t70:=Tryz.underlying158
 a70:=Tryz.isAgg158
 z70:=Tryz.sizeOf158
 v70:=Tryz.zeroValue158
 t72:=Tryz.underlying160
 a72:=Tryz.isAgg160
 z72:=Tryz.sizeOf160
 v72:=Tryz.zeroValue160
 t75:=Tryz.underlying163
 a75:=Tryz.isAgg163
 z75:=Tryz.sizeOf163
 v75:=Tryz.zeroValue163
 t76:=Tryz.underlying164
 a76:=Tryz.isAgg164
 z76:=Tryz.sizeOf164
 v76:=Tryz.zeroValue164
 t127:=Tryz.underlying237
 a127:=Tryz.isAgg237
 z127:=Tryz.sizeOf237
 v127:=Tryz.zeroValue237
 t164:=Tryz.underlying297
 a164:=Tryz.isAgg297
 z164:=Tryz.sizeOf297
 v164:=Tryz.zeroValue297 }
theorem Tryz.Builder_Extra_156:Builder.Extra Tryz.prog Tryz.lays156_ren:={
 sizeBuilder:=by kernel_rfl
 liesBuilder:=by kernel_rfl
 t5:=Tryz.underlying5
 a5:=Tryz.isAgg5
 z5:=Tryz.sizeOf5
 v5:=Tryz.zeroValue5
 infoByte:=by kernel_rfl
 cellsByte:=by kernel_rfl
 sizeByte:=by kernel_rfl
 neB5:=by decide }
open Go.RowKit in
theorem Tryz.strings_Join(bk o c:Nat)(xs:List ByteArray)(sep:ByteArray)(w:World)(hcells:∀(j:Nat) x,xs[j]?=some x->w.cell? ⟨bk,o+j,none⟩=some (.string x))(hbk:bk<w.heap.size)(hN:xs.length<=140737488355328)(hcap:xs.length<=c)(hlen:(Lib.join (xs.map (·.data.toList)) sep.data.toList).length<=140737488355328) :
  Calls Tryz.prog 356 #[.slice (some ⟨bk,o,none⟩) xs.length c,.string sep] w λ e w'=>e=.returned (.string ⟨(Lib.join (xs.map (·.data.toList)) sep.data.toList).toArray⟩)/\Below w.heap.size w w':=Any.strings_Join Tryz.lays156 Tryz.Builder_Extra_156 bk o c xs sep w hcells hbk hN hcap hlen
def Tryz.lays160_ren:Go.Shelf.Ren:=⟨λ|160=>144|232=>204|231=>203|227=>205|234=>207|233=>206|236=>209|235=>208|228=>239|271=>242|151=>241|197=>240|120=>263|152=>262|260=>261|137=>270|119=>271|224=>272|225=>273|217=>275|266=>276|n=>n,λ|9=>9|4=>4|3=>3|5=>5|117=>305|116=>304|0=>0|124=>308|21=>21|105=>345|46=>293|119=>372|139=>375|138=>374|n=>n,λ|3=>1|4=>2|n=>n⟩
theorem Tryz.lays160:Go.Proofs.Lays.n160 Tryz.prog Tryz.lays160_ren:={
 mixed:=by kernel_rfl
 f119:=Tryz.func271.trans (congrArg some (by kernel_rfl))
 f120:=Tryz.func263.trans (congrArg some (by kernel_rfl))
 f137:=Tryz.func270.trans (congrArg some (by kernel_rfl))
 f151:=Tryz.func241.trans (congrArg some (by kernel_rfl))
 f152:=Tryz.func262.trans (congrArg some (by kernel_rfl))
 f160:=Tryz.func144.trans (congrArg some (by kernel_rfl))
 f197:=Tryz.func240.trans (congrArg some (by kernel_rfl))
 f217:=Tryz.func275.trans (congrArg some (by kernel_rfl))
 f224:=Tryz.func272.trans (congrArg some (by kernel_rfl))
 f225:=Tryz.func273.trans (congrArg some (by kernel_rfl))
 f227:=Tryz.func205.trans (congrArg some (by kernel_rfl))
 f228:=Tryz.func239.trans (congrArg some (by kernel_rfl))
 f231:=Tryz.func203.trans (congrArg some (by kernel_rfl))
 f232:=Tryz.func204.trans (congrArg some (by kernel_rfl))
 f233:=Tryz.func206.trans (congrArg some (by kernel_rfl))
 f234:=Tryz.func207.trans (congrArg some (by kernel_rfl))
 f235:=Tryz.func208.trans (congrArg some (by kernel_rfl))
 f236:=Tryz.func209.trans (congrArg some (by kernel_rfl))
 f260:=Tryz.func261.trans (congrArg some (by kernel_rfl))
 f266:=Tryz.func276.trans (congrArg some (by kernel_rfl))
 f271:=Tryz.func242.trans (congrArg some (by kernel_rfl))
 t0:=Tryz.underlying0
 a0:=Tryz.isAgg0
 z0:=Tryz.sizeOf0
 v0:=Tryz.zeroValue0
 t3:=Tryz.underlying3
 a3:=Tryz.isAgg3
 z3:=Tryz.sizeOf3
 v3:=Tryz.zeroValue3
 t4:=Tryz.underlying4
 a4:=Tryz.isAgg4
 z4:=Tryz.sizeOf4
 v4:=Tryz.zeroValue4
 t5:=Tryz.underlying5
 a5:=Tryz.isAgg5
 z5:=Tryz.sizeOf5
 v5:=Tryz.zeroValue5
 t9:=Tryz.underlying9
 a9:=Tryz.isAgg9
 z9:=Tryz.sizeOf9
 v9:=Tryz.zeroValue9
 t21:=Tryz.underlying21
 a21:=Tryz.isAgg21
 z21:=Tryz.sizeOf21
 v21:=Tryz.zeroValue21
 t46:=Tryz.underlying293
 a46:=Tryz.isAgg293
 z46:=Tryz.sizeOf293
 v46:=Tryz.zeroValue293
 t105:=Tryz.underlying345
 a105:=Tryz.isAgg345
 z105:=Tryz.sizeOf345
 v105:=Tryz.zeroValue345
 t116:=Tryz.underlying304
 a116:=Tryz.isAgg304
 z116:=Tryz.sizeOf304
 t117:=Tryz.underlying305
 a117:=Tryz.isAgg305
 z117:=Tryz.sizeOf305
 v117:=Tryz.zeroValue305
 t119:=Tryz.underlying372
 a119:=Tryz.isAgg372
 z119:=Tryz.sizeOf372
 t124:=Tryz.underlying308
 a124:=Tryz.isAgg308
 z124:=Tryz.sizeOf308
 v124:=Tryz.zeroValue308
 t138:=Tryz.underlying374
 a138:=Tryz.isAgg374
 z138:=Tryz.sizeOf374
 v138:=Tryz.zeroValue374
 t139:=Tryz.underlying375
 a139:=Tryz.isAgg375
 z139:=Tryz.sizeOf375
 v139:=Tryz.zeroValue375
 g3:=by kernel_rfl
 g4:=by kernel_rfl }
open Go.RowKit in
theorem Tryz.strings_Trim_one(s:ByteArray)(c:UInt8)(hc:c.toNat<128)(w:World)(hs:s.size<=9223372036854775807) :
  Calls Tryz.prog 144 #[.string s,.string ⟨#[c]⟩] w λ e w'=>e=.returned (.string ⟨(Lib.trimB s.data.toList c).toArray⟩)/\(w'=w\/w'=w.drew):=Any.strings_Trim_one Tryz.lays160 s c hc w hs
def Tryz.lays125_ren:Go.Shelf.Ren:=⟨λ|125=>224|128=>252|129=>253|n=>n,λ|46=>293|3=>3|51=>338|53=>46|4=>4|5=>5|9=>9|n=>n,λ|n=>n⟩
theorem Tryz.lays125:Go.Proofs.Lays.n125 Tryz.prog Tryz.lays125_ren:={
 mixed:=by kernel_rfl
 f125:=Tryz.func224.trans (congrArg some (by kernel_rfl))
 f128:=Tryz.func252.trans (congrArg some (by kernel_rfl))
 f129:=Tryz.func253.trans (congrArg some (by kernel_rfl))
 t3:=Tryz.underlying3
 a3:=Tryz.isAgg3
 z3:=Tryz.sizeOf3
 v3:=Tryz.zeroValue3
 t4:=Tryz.underlying4
 a4:=Tryz.isAgg4
 z4:=Tryz.sizeOf4
 v4:=Tryz.zeroValue4
 t5:=Tryz.underlying5
 a5:=Tryz.isAgg5
 z5:=Tryz.sizeOf5
 v5:=Tryz.zeroValue5
 t9:=Tryz.underlying9
 a9:=Tryz.isAgg9
 z9:=Tryz.sizeOf9
 v9:=Tryz.zeroValue9
 t46:=Tryz.underlying293
 a46:=Tryz.isAgg293
 z46:=Tryz.sizeOf293
 v46:=Tryz.zeroValue293
 t51:=Tryz.underlying338
 a51:=Tryz.isAgg338
 z51:=Tryz.sizeOf338
 v51:=Tryz.zeroValue338
 t53:=Tryz.underlying46
 a53:=Tryz.isAgg46
 z53:=Tryz.sizeOf46
 v53:=Tryz.zeroValue46 }
theorem Tryz.bits_Len(x:Int)(w:World)(h0:0<=x)(h1:x<=18446744073709551615) :
  Calls Tryz.prog 224 #[.int .u64 x] w λ e w'=>e=.returned (.int .i64 (Lib.bitLen x.toNat))/\w'=w:=Any.bits_Len Tryz.lays125 x w h0 h1
def Tryz.lays122_ren:Go.Shelf.Ren:=⟨λ|122=>226|215=>254|n=>n,λ|3=>3|4=>4|n=>n,λ|n=>n⟩
theorem Tryz.lays122:Go.Proofs.Lays.n122 Tryz.prog Tryz.lays122_ren:={
 mixed:=by kernel_rfl
 f122:=Tryz.func226.trans (congrArg some (by kernel_rfl))
 f215:=Tryz.func254.trans (congrArg some (by kernel_rfl))
 t3:=Tryz.underlying3
 a3:=Tryz.isAgg3
 z3:=Tryz.sizeOf3
 v3:=Tryz.zeroValue3
 t4:=Tryz.underlying4
 a4:=Tryz.isAgg4
 z4:=Tryz.sizeOf4
 v4:=Tryz.zeroValue4 }
open Go.RowKit in
theorem Tryz.cmp_Compare_int(x y:Int)(w:World) :
  Calls Tryz.prog 226 #[.int .i64 x,.int .i64 y] w λ e w'=>e=.returned (.int .i64 (Lib.compareInt x y))/\w'=w:=Any.cmp_Compare_int Tryz.lays122 x y w
def Tryz.lays189_ren:Go.Shelf.Ren:=⟨λ|189=>364|125=>224|257=>367|128=>252|129=>253|294=>368|295=>369|296=>370|297=>371|298=>372|299=>373|216=>374|300=>375|301=>376|328=>377|329=>265|330=>266|331=>378|332=>379|215=>254|343=>380|n=>n,λ|28=>36|3=>3|46=>293|0=>0|51=>338|53=>46|4=>4|183=>351|182=>350|131=>197|5=>5|9=>9|218=>363|222=>367|228=>379|229=>380|n=>n,λ|n=>n⟩
theorem Tryz.lays189:Go.Proofs.Lays.n189 Tryz.prog Tryz.lays189_ren:={
 mixed:=by kernel_rfl
 f125:=Tryz.func224.trans (congrArg some (by kernel_rfl))
 f128:=Tryz.func252.trans (congrArg some (by kernel_rfl))
 f129:=Tryz.func253.trans (congrArg some (by kernel_rfl))
 f189:=Tryz.func364.trans (congrArg some (by kernel_rfl))
 f215:=Tryz.func254.trans (congrArg some (by kernel_rfl))
 f216:=Tryz.func374.trans (congrArg some (by kernel_rfl))
 f257:=Tryz.func367.trans (congrArg some (by kernel_rfl))
 f294:=Tryz.func368.trans (congrArg some (by kernel_rfl))
 f295:=Tryz.func369.trans (congrArg some (by kernel_rfl))
 f296:=Tryz.func370.trans (congrArg some (by kernel_rfl))
 f297:=Tryz.func371.trans (congrArg some (by kernel_rfl))
 f298:=Tryz.func372.trans (congrArg some (by kernel_rfl))
 f299:=Tryz.func373.trans (congrArg some (by kernel_rfl))
 f300:=Tryz.func375.trans (congrArg some (by kernel_rfl))
 f301:=Tryz.func376.trans (congrArg some (by kernel_rfl))
 f328:=Tryz.func377.trans (congrArg some (by kernel_rfl))
 f329:=Tryz.func265.trans (congrArg some (by kernel_rfl))
 f330:=Tryz.func266.trans (congrArg some (by kernel_rfl))
 f331:=Tryz.func378.trans (congrArg some (by kernel_rfl))
 f332:=Tryz.func379.trans (congrArg some (by kernel_rfl))
 f343:=Tryz.func380.trans (congrArg some (by kernel_rfl))
 t0:=Tryz.underlying0
 a0:=Tryz.isAgg0
 z0:=Tryz.sizeOf0
 v0:=Tryz.zeroValue0
 t3:=Tryz.underlying3
 a3:=Tryz.isAgg3
 z3:=Tryz.sizeOf3
 v3:=Tryz.zeroValue3
 t4:=Tryz.underlying4
 a4:=Tryz.isAgg4
 z4:=Tryz.sizeOf4
 v4:=Tryz.zeroValue4
 t5:=Tryz.underlying5
 a5:=Tryz.isAgg5
 z5:=Tryz.sizeOf5
 v5:=Tryz.zeroValue5
 t9:=Tryz.underlying9
 a9:=Tryz.isAgg9
 z9:=Tryz.sizeOf9
 v9:=Tryz.zeroValue9
 t28:=Tryz.underlying36
 a28:=Tryz.isAgg36
 z28:=Tryz.sizeOf36
 v28:=Tryz.zeroValue36
 t46:=Tryz.underlying293
 a46:=Tryz.isAgg293
 z46:=Tryz.sizeOf293
 v46:=Tryz.zeroValue293
 t51:=Tryz.underlying338
 a51:=Tryz.isAgg338
 z51:=Tryz.sizeOf338
 v51:=Tryz.zeroValue338
 t53:=Tryz.underlying46
 a53:=Tryz.isAgg46
 z53:=Tryz.sizeOf46
 v53:=Tryz.zeroValue46
 t131:=Tryz.underlying197
 a131:=Tryz.isAgg197
 z131:=Tryz.sizeOf197
 v131:=Tryz.zeroValue197
 t182:=Tryz.underlying350
 a182:=Tryz.isAgg350
 z182:=Tryz.sizeOf350
 v182:=Tryz.zeroValue350
 t183:=Tryz.underlying351
 a183:=Tryz.isAgg351
 z183:=Tryz.sizeOf351
 v183:=Tryz.zeroValue351
 t218:=Tryz.underlying363
 a218:=Tryz.isAgg363
 z218:=Tryz.sizeOf363
 v218:=Tryz.zeroValue363
 t222:=Tryz.underlying367
 a222:=Tryz.isAgg367
 z222:=Tryz.sizeOf367
 v222:=Tryz.zeroValue367
 t228:=Tryz.underlying379
 a228:=Tryz.isAgg379
 z228:=Tryz.sizeOf379
 v228:=Tryz.zeroValue379
 t229:=Tryz.underlying380
 a229:=Tryz.isAgg380
 z229:=Tryz.sizeOf380
 v229:=Tryz.zeroValue380 }
open Go.Sort Go.RowKit in
theorem Tryz.slices_Sort_int(blk off cap:Nat)(zs:List Int)(w:World)(hH:Holds (Value.int .i64) w blk off zs.toArray)(hblk:blk<w.heap.size)(hsz:zs.length<4611686018427387904) :
  Calls Tryz.prog 364 #[.slice (some ⟨blk,off,none⟩) zs.length cap] w λ e w' =>
   e=.returned (.tuple #[])/\∃ n os,w'=grow (putRow (Value.int .i64) (Sort.ahead w n) blk off (zs.mergeSort λ x y=>decide (x<=y)).toArray) os:=Any.slices_Sort_int Tryz.lays189 blk off cap zs w hH hblk hsz
def Tryz.lays105_ren:Go.Shelf.Ren:=⟨λ|105=>138|212=>195|99=>196|165=>197|166=>78|170=>198|169=>79|263=>234|264=>235|206=>236|240=>139|241=>237|276=>199|277=>260|n=>n,λ|9=>9|3=>3|4=>4|20=>20|0=>0|46=>293|109=>294|5=>5|72=>160|76=>164|51=>338|146=>339|53=>46|148=>341|70=>158|37=>99|75=>163|127=>237|164=>297|80=>166|n=>n,λ|n=>n⟩
theorem Tryz.lays105:Go.Proofs.Lays.n105 Tryz.prog Tryz.lays105_ren:={
 mixed:=by kernel_rfl
 f99:=Tryz.func196.trans (congrArg some (by kernel_rfl))
 f105:=Tryz.func138.trans (congrArg some (by kernel_rfl))
 f165:=Tryz.func197.trans (congrArg some (by kernel_rfl))
 f166:=Tryz.func78.trans (congrArg some (by kernel_rfl))
 f169:=Tryz.func79.trans (congrArg some (by kernel_rfl))
 f170:=Tryz.func198.trans (congrArg some (by kernel_rfl))
 f206:=Tryz.func236.trans (congrArg some (by kernel_rfl))
 f212:=Tryz.func195.trans (congrArg some (by kernel_rfl))
 f240:=Tryz.func139.trans (congrArg some (by kernel_rfl))
 f241:=Tryz.func237.trans (congrArg some (by kernel_rfl))
 f263:=Tryz.func234.trans (congrArg some (by kernel_rfl))
 f264:=Tryz.func235.trans (congrArg some (by kernel_rfl))
 f276:=Tryz.func199.trans (congrArg some (by kernel_rfl))
 f277:=Tryz.func260.trans (congrArg some (by kernel_rfl))
 t0:=Tryz.underlying0
 a0:=Tryz.isAgg0
 z0:=Tryz.sizeOf0
 v0:=Tryz.zeroValue0
 t3:=Tryz.underlying3
 a3:=Tryz.isAgg3
 z3:=Tryz.sizeOf3
 v3:=Tryz.zeroValue3
 t4:=Tryz.underlying4
 a4:=Tryz.isAgg4
 z4:=Tryz.sizeOf4
 v4:=Tryz.zeroValue4
 t5:=Tryz.underlying5
 a5:=Tryz.isAgg5
 z5:=Tryz.sizeOf5
 v5:=Tryz.zeroValue5
 t9:=Tryz.underlying9
 a9:=Tryz.isAgg9
 z9:=Tryz.sizeOf9
 v9:=Tryz.zeroValue9
 t20:=Tryz.underlying20
 a20:=Tryz.isAgg20
 z20:=Tryz.sizeOf20
 v20:=Tryz.zeroValue20
 t37:=Tryz.underlying99
 a37:=Tryz.isAgg99
 z37:=Tryz.sizeOf99
 v37:=Tryz.zeroValue99
 t46:=Tryz.underlying293
 a46:=Tryz.isAgg293
 z46:=Tryz.sizeOf293
 v46:=Tryz.zeroValue293
 t51:=Tryz.underlying338
 a51:=Tryz.isAgg338
 z51:=Tryz.sizeOf338
 v51:=Tryz.zeroValue338
 t53:=Tryz.underlying46
 a53:=Tryz.isAgg46
 z53:=Tryz.sizeOf46
 v53:=Tryz.zeroValue46
 t70:=Tryz.underlying158
 a70:=Tryz.isAgg158
 z70:=Tryz.sizeOf158
 v70:=Tryz.zeroValue158
 t72:=Tryz.underlying160
 a72:=Tryz.isAgg160
 z72:=Tryz.sizeOf160
 v72:=Tryz.zeroValue160
 t75:=Tryz.underlying163
 a75:=Tryz.isAgg163
 z75:=Tryz.sizeOf163
 v75:=Tryz.zeroValue163
 t76:=Tryz.underlying164
 a76:=Tryz.isAgg164
 z76:=Tryz.sizeOf164
 v76:=Tryz.zeroValue164
 t109:=Tryz.underlying294
 a109:=Tryz.isAgg294
 z109:=Tryz.sizeOf294
 v109:=Tryz.zeroValue294
 t127:=Tryz.underlying237
 a127:=Tryz.isAgg237
 z127:=Tryz.sizeOf237
 v127:=Tryz.zeroValue237
 t146:=Tryz.underlying339
 a146:=Tryz.isAgg339
 z146:=Tryz.sizeOf339
 v146:=Tryz.zeroValue339
 t148:=Tryz.underlying341
 a148:=Tryz.isAgg341
 z148:=Tryz.sizeOf341
 v148:=Tryz.zeroValue341
 t164:=Tryz.underlying297
 a164:=Tryz.isAgg297
 z164:=Tryz.sizeOf297
 v164:=Tryz.zeroValue297 }
theorem Tryz.Builder_Extra_105:Builder.Extra Tryz.prog Tryz.lays105_ren:={
 sizeBuilder:=by kernel_rfl
 liesBuilder:=by kernel_rfl
 t5:=Tryz.underlying5
 a5:=Tryz.isAgg5
 z5:=Tryz.sizeOf5
 v5:=Tryz.zeroValue5
 infoByte:=by kernel_rfl
 cellsByte:=by kernel_rfl
 sizeByte:=by kernel_rfl
 neB5:=by decide }
open Go.RowKit Go.Lib in
theorem Tryz.strings_Repeat(s:ByteArray)(c:Nat)(w:World)(hc:c<=9223372036854775807)(hlen:s.size*c<=140737488355328) :
  Calls Tryz.prog 138 #[.string s,.int .i64 c] w λ e w'=>e=.returned (.string ⟨(Lib.repeatL s.data.toList c).toArray⟩)/\Below w.heap.size w w':=Any.strings_Repeat Tryz.lays105 Tryz.Builder_Extra_105 s c w hc hlen
def Tryz.lays110_ren:Go.Shelf.Ren:=⟨λ|110=>344|109=>352|n=>n,λ|31=>101|9=>9|4=>4|3=>3|0=>0|n=>n,λ|n=>n⟩
theorem Tryz.lays110:Go.Proofs.Lays.n110 Tryz.prog Tryz.lays110_ren:={
 mixed:=by kernel_rfl
 f109:=Tryz.func352.trans (congrArg some (by kernel_rfl))
 f110:=Tryz.func344.trans (congrArg some (by kernel_rfl))
 t0:=Tryz.underlying0
 a0:=Tryz.isAgg0
 z0:=Tryz.sizeOf0
 v0:=Tryz.zeroValue0
 t3:=Tryz.underlying3
 a3:=Tryz.isAgg3
 z3:=Tryz.sizeOf3
 v3:=Tryz.zeroValue3
 t4:=Tryz.underlying4
 a4:=Tryz.isAgg4
 z4:=Tryz.sizeOf4
 v4:=Tryz.zeroValue4
 t9:=Tryz.underlying9
 a9:=Tryz.isAgg9
 z9:=Tryz.sizeOf9
 v9:=Tryz.zeroValue9
 t31:=Tryz.underlying101
 a31:=Tryz.isAgg101
 z31:=Tryz.sizeOf101
 v31:=Tryz.zeroValue101 }
open Go.Lib in
theorem Tryz.slices_Contains_string(b off n c:Nat)(zs:List ByteArray)(x:ByteArray)(w:World)(hz:n<=zs.length)(hbig:n<=9223372036854775807)(hc:∀ j,j<zs.length->w.cell? ⟨b,off+j,none⟩=some (.string (zs.getD j ByteArray.empty))) :
  Calls Tryz.prog 344 #[.slice (some ⟨b,off,none⟩) n c,.string x] w λ e w'=>e=.returned (.bool (Lib.containsS (zs.take n) x))/\w'=w:=Any.slices_Contains_string Tryz.lays110 b off n c zs x w hz hbig hc
def Tryz.laysNm220_ren:Go.Shelf.Ren:=⟨λ|20=>365|n=>n,λ|22=>36|3=>3|4=>4|0=>0|n=>n,λ|n=>n⟩
theorem Tryz.laysNm220:Go.Proofs.Lays2.n20 Tryz.prog Tryz.laysNm220_ren:={
 mixed:=by kernel_rfl
 f20:=Tryz.func365.trans (congrArg some (by kernel_rfl))
 t0:=Tryz.underlying0
 a0:=Tryz.isAgg0
 z0:=Tryz.sizeOf0
 v0:=Tryz.zeroValue0
 t3:=Tryz.underlying3
 a3:=Tryz.isAgg3
 z3:=Tryz.sizeOf3
 v3:=Tryz.zeroValue3
 t4:=Tryz.underlying4
 a4:=Tryz.isAgg4
 z4:=Tryz.sizeOf4
 v4:=Tryz.zeroValue4
 t22:=Tryz.underlying36
 a22:=Tryz.isAgg36
 z22:=Tryz.sizeOf36
 v22:=Tryz.zeroValue36
 i3:=by kernel_rfl }
open Go.RowKit Go.Lib Go.Sort in
theorem Tryz.slices_Compact_int(blk off cap:Nat)(zs:List Int)(w:World)(hH:Holds (Value.int .i64) w blk off zs.toArray)(hsz:zs.length<=9223372036854775807)(hcap:zs.length<=cap) :
  Calls Tryz.prog 365 #[.slice (some ⟨blk,off,none⟩) zs.length cap] w λ e w'=>e=.returned (.slice (some ⟨blk,off,none⟩) (Lib.compact zs).length cap)/\∃ q,w'=putRow (Value.int .i64) (Sort.ahead w q) blk off (Lib.compact zs++List.replicate (zs.length-(Lib.compact zs).length) 0).toArray:=Any.slices_Compact_int Tryz.laysNm220 blk off cap zs w hH hsz hcap
end Go.Proofs
namespace Go.Proofs.YtlfjdjndhcmliaaGreatDoor
open Go.RowKit Go.Sort
def J6:List UInt8->Nat
 | []=>0
 |b::r=>b.toNat+256*J6 r
theorem zf:∀ a b:List UInt8,J6 (a++b)=J6 a+256^a.length*J6 b
 | [],b=>by simp [J6]
 |x::a,b=>by simp only [List.cons_append,J6,zf a b,List.length_cons,Nat.pow_succ];rw [Nat.mul_add,<- Nat.mul_assoc,Nat.mul_comm 256 (256^a.length)];omega
theorem Zdi:∀ l:List UInt8,J6 l<256^l.length
 | []=>by simp [J6]
 |b::r=>by
  have h:=Zdi r;have hb:b.toNat<256:=b.toNat_lt;simp only [J6,List.length_cons,Nat.pow_succ];omega
def num(s:ByteArray)(i k:Nat):Nat:=J6 ((s.data.toList.drop i).take k)
theorem Zi(s:ByteArray):s.data.toList.length=s.size:=by rw [Array.length_toList];rfl
theorem ZdS(s:ByteArray)(i k:Nat)(h:i+k<=s.size):((s.data.toList.drop i).take k).length=k:=by
 rw [List.length_take,List.length_drop,Zi];omega
theorem Zgl(s:ByteArray)(i:Nat):num s i 0=0:=by simp [num,J6]
theorem kE(s:ByteArray)(i k:Nat)(h:i+k<=s.size):num s i k<256^k:=by
 have:=Zdi ((s.data.toList.drop i).take k)
 rwa [ZdS s i k h]at this
theorem ZgF(s:ByteArray)(i k:Nat)(h:i+k<s.size):num s i (k+1)=num s i k+256^k*(s[i+k]'h).toNat:=by
 have hl:k<(s.data.toList.drop i).length:=by rw [List.length_drop,Zi];omega
 have e:(s.data.toList.drop i)[k]=s[i+k]'h:=by rw [List.getElem_drop];rfl
 unfold num;rw [List.take_succ_eq_append_getElem hl,zf,<- num,ZdS s i k (by omega),e];simp [J6]
theorem ZkD(s:ByteArray)(i k:Nat)(h:i+k<s.size)(hk:k<8) :
  bits .or .u64 (num s i k:Int) ((((s[i+k]'h).toNat*256^k:Nat)):Int)=(num s i (k+1):Int):=by
 have h1:=kE s i k (by omega);have h2:=kE s i (k+1) (by omega);have h3:=ZgF s i k h;have h4:(256:Nat)^(k+1)<=256^8:=Nat.pow_le_pow_right (by omega) (by omega);have hp:(256:Nat)^k=2^(8*k):=by rw [show (256:Nat)=2^8 from rfl,<- Nat.pow_mul]
 rw [Nat.mul_comm]at h3;rw [bits_or_u64_nat _ _ (by omega) (by omega),Nat.or_comm,nat_join (8*k) _ _ (by rw [hp];simp) (by omega),Nat.add_comm,h3]
theorem ZfI(B k:Nat)(hB:B<256)(hk:k<8):IntKind.u64.wrap ((B:Int)*2^(8*k))=((B*256^k:Nat):Int):=by
 have hq:B*256^k<256^8:=Nat.lt_of_lt_of_le (Nat.mul_lt_mul_of_pos_right hB (Nat.pow_pos (by omega))) (by rw [Nat.mul_comm,<- Nat.pow_succ];exact Nat.pow_le_pow_right (by omega) (by omega))
 have e:(B:Int)*2^(8*k)=((B*256^k:Nat):Int):=by
  have hp:(256:Nat)^k=2^(8*k):=by rw [show (256:Nat)=2^8 from rfl,<- Nat.pow_mul]
  rw [hp,Int.natCast_mul,Int.natCast_pow];rfl
 have h8:(256:Nat)^8=18446744073709551616:=by decide
 rw [e,IntKind.wrap_u64];omega
class Rd(b:Nat)(s:ByteArray)(i:Nat)(w:World):Prop where
 old:Yc b w
 c0:w.cell? ⟨b,0,none⟩=some (.string s)
 c1:w.cell? ⟨b,1,none⟩=some (.int .i64 i)
 fr:w.frozen? ⟨b,1,none⟩=false
theorem Rd.gr{b:Nat}{s:ByteArray}{i:Nat}{w:World}(h:Rd b s i w)(g:Gr):Rd b s i (gr w g):=by
 haveI:=h.old;exact⟨ii,(Z7 ..).trans h.c0,(Z7 ..).trans h.c1,(UN ..).trans h.fr⟩
set_option maxRecDepth 512 in
theorem Zdz{b:Nat}{s:ByteArray}{i:Nat}(hi:i<=s.size)(hs:s.size<4611686018427387904)(w:World)(h:Rd b s i w) :
  Calls Tryz.prog 200 #[.pointer (some ⟨b,0,none⟩)] w λ e w'=>e=.returned (.int .i64 ((s.size:Int)-i))/\∃ g:Gr,w'=gr w g:=by
 haveI:=h.old;have h0:=h.c0;have h1:=h.c1
 go_in
 go_wp2_with fail;refine QN (by kernel_rfl) (by kernel_rfl) ?_
 repeat(go_big_quiet_step (fail))
 refine wpQuiet_nil ?_;rintro _ ⟨g,rfl⟩;go_wp2_with fail;go_ret;exact⟨rfl,_,rfl⟩
set_option maxRecDepth 512 in
theorem U3{b:Nat}{s:ByteArray}{i n:Nat}(hn:n<=8)(hi:i+n<=s.size)(hs:s.size<4611686018427387904)(w:World)(h:Rd b s i w) :
  Calls Tryz.prog 202 #[.pointer (some ⟨b,0,none⟩),.int .i64 (n:Int)] w λ e w' =>
   e=.returned (.tuple #[.int .u64 (num s i n:Int),.int .i64 0])/\∃ g:Gr,w'=gr (w.setCell ⟨b,1,none⟩ (.int .i64 ((i+n:Nat):Int))) g:=by
 haveI:=h.old;have h0:=h.c0;have h1:=h.c1;have hf:=h.fr;have c1:=Zdz (by omega) hs w h;clear h
 go_in
 go_wp2_with(go_at_call 200;with_reducible refine c1.mono ?_;rintro e w' ⟨rfl,g,rfl⟩)
 go_loopw [6,13] (λ v c wr=>∃ k:Nat,k<=n/\c=.int .i64 k/\v=.int .u64 (num s i k:Int)/\∃ g':Gr,wr=gr w g')
  (λ _ c _=>n-(intOf c).toNat)
 case atStart=>exact⟨0,Nat.zero_le _,rfl,by rw [Zgl];rfl,_,rfl⟩
 case round =>
  obtain⟨k,hk,rfl,rfl,g',rfl⟩:=hrel
  by_cases hlt:k<n
  ·have hor:=ZkD s i k (by omega) (by omega);obtain⟨B,hB⟩:∃ B:Nat,(s[i+k]'(by omega)).toNat=B:=⟨_,rfl⟩
   have hB8:B<256:=by rw [<-hB];exact UInt8.toNat_lt _
   have hix:∀ W:World,(Instr.index 9 (.string s) (.int .i64 ((i:Int)+(k:Int)))).run Tryz.prog W=.ok (.int .u8 (B:Int)) W:=λ W=>by
    rw [run_index_string (P:=Tryz.prog) W _ s _ _ Tryz.underlying9,dif_pos (by omega)];have e:((i:Int)+(k:Int)).toNat=i+k:=by omega
    simp only [e,hB]
   rw [hB]at hor;obtain⟨X,hX⟩:∃ X:Nat,num s i k=X:=⟨_,rfl⟩
   obtain⟨Y,hY⟩:∃ Y:Nat,num s i (k+1)=Y:=⟨_,rfl⟩
   rw [hX,hY]at hor;rw [hX];have HY:=Lib.hid hY;have HO:=Lib.hid hor;clear hX hY hor hB c1;have hsh:Hid (IntKind.u64.wrap ((B:Int)*2^(8*k))=((B*256^k:Nat):Int)):=ZfI B k hB8 (by omega);go_wp2_with fail;refine yf (by kernel_rfl) (by kernel_rfl) ?_
   repeat(go_big_quiet_step (fail))
   refine wpQuiet_nil ?_;rintro _ ⟨g5,rfl⟩;go_wp2_with fail
   go_roundw
   case rel=>exact⟨k+1,by omega,by go_num,by rw [hsh.out,HO.out,HY.out],_,rfl⟩
   case measure=>simp [intOf];omega
  ·obtain rfl:n=k:=by omega
   go_wp2_with fail;go_ret2;exact⟨rfl,_,rfl⟩
set_option maxRecDepth 512 in
theorem ZkO{b:Nat}{s:ByteArray}{i:Nat}(hi:i+4<=s.size)(hs:s.size<4611686018427387904)(w:World)(h:Rd b s i w) :
  Calls Tryz.prog 238 #[.pointer (some ⟨b,0,none⟩)] w λ e w' =>
   e=.returned (.tuple #[.int .i64 (num s i 4:Int),.int .i64 0])/\∃ g:Gr,w'=gr (w.setCell ⟨b,1,none⟩ (.int .i64 ((i+4:Nat):Int))) g:=by
 have c1:Calls Tryz.prog 202 #[.pointer (some ⟨b,0,none⟩),.int .i64 4] w λ e w'=>e=.returned (.tuple #[.int .u64 (num s i 4:Int),.int .i64 0])/\∃ g:Gr,w'=gr (w.setCell ⟨b,1,none⟩ (.int .i64 ((i+4:Nat):Int))) g:=U3 (n:=4) (by omega) hi hs w h
 have hl:=kE s i 4 hi;obtain⟨X,hX⟩:∃ X:Nat,num s i 4=X:=⟨_,rfl⟩
 rw [hX]at c1 hl ⊢;clear hX
 go_in
 go_wp2_with(go_at_call 202;with_reducible refine c1.mono ?_;rintro e w' ⟨rfl,g,rfl⟩);go_ret2;exact⟨by go_num,_,rfl⟩
set_option maxRecDepth 512 in
theorem ZcQ(s:ByteArray)(w:World) :
  Calls Tryz.prog 80 #[.string s] w λ e w'=>e=.returned (.pointer (some ⟨w.heap.size,0,none⟩))/\w'=w.alloc (.cells #[.string s,.int .i64 0] 239):=by
 go_in
 go_wp2_with fail;go_ret;exact⟨rfl,rfl⟩
def zR(s:ByteArray):Nat:=(4-s.size%4)%4
def KD(s:ByteArray):ByteArray:=s++⟨(Lib.repeatL [0] (zR s)).toArray⟩
theorem UY(s:ByteArray):(KD s).data.toList=s.data.toList++Lib.repeatL [0] (zR s):=by
 simp [KD,ByteArray.data_append]
@[go_sem] theorem jp (s:ByteArray):(KD s).size=s.size+zR s:=by
 rw [<-Zi,UY,List.length_append,Zi,Lib.repeatL_length];simp
theorem jW(s:ByteArray):zR s<4:=Nat.mod_lt _ (by omega)
theorem Zgf(s:ByteArray):(KD s).size%4=0:=by rw [jp,zR];omega
set_option maxRecDepth 512 in
theorem Zih(s:ByteArray)(hs:s.size<4611686018427387900):KI Tryz.prog 119 #[.string s,.int .i64 4] (.string (KD s)):=by
 intro w;have c0:=λ W:World=>Tryz.strings_Repeat ⟨#[0]⟩ (zR s) W (by have:=jW s;omega) (by have:=jW s;show 1*zR s<=_;omega)
 have c1:∀(W:World)(z:Int),z=zR s->Calls Tryz.prog 138 #[.string ⟨#[0]⟩,.int .i64 z] W λ e w'=>e=.returned (.string ⟨(Lib.repeatL [0] (zR s)).toArray⟩)/\∃ g:Gr,w'=gr W g:=by
  rintro W z rfl;exact(c0 W).mono λ e w' ⟨he,hb⟩=>⟨he,Zf hb⟩
 clear c0;have hp:=jp s;have hlt:=jW s;have hpd:zR s=(4-s.size%4)%4:=rfl;have hcat:s++⟨(Lib.repeatL [0] (zR s)).toArray⟩=KD s:=rfl;have hpz:(⟨(Lib.repeatL [0] (zR s)).toArray⟩:ByteArray).size=zR s:=by rw [<-Zi];simp [Lib.repeatL_length]
 have HC:=Lib.hid hcat;generalize (⟨(Lib.repeatL [0] (zR s)).toArray⟩:ByteArray)=Z at c1 hpz HC;clear hcat
 go_in
 go_wp2_with(go_at_call 138;refine(c1 _ _ (by omega)).mono ?_;rintro e w' ⟨rfl,g,rfl⟩);go_ret;exact ZM.mk (by rw [HC.out];rfl) grown
def yx(s:ByteArray)(k:Nat):Nat:=num s (4*k) 4
def Xk(s:ByteArray):Nat:=s.size/4
def XR(s:ByteArray)(k:Nat):List Nat:=(List.range k).map (yx s)
def Xj(s:ByteArray):List Nat:=XR s (Xk s)
theorem Xv(s:ByteArray)(k:Nat):XR s (k+1)=XR s k++[yx s k]:=by simp [XR,List.range_succ]
theorem jz(s:ByteArray){k n:Nat}(h:k<=n):XR s k <+: XR s n:=by
 obtain⟨d,rfl⟩:=Nat.exists_eq_add_of_le h
 induction d with
 |zero=>exact List.prefix_refl _
 |succ d ih=>rw [<-Nat.add_assoc,Xv];exact(ih (by omega)).trans (List.prefix_append _ _)
attribute [local go_sem] Oper.semAt_some
theorem Rd.kept{b:Nat}{s:ByteArray}{i B:Nat}{w w':World}(h:Rd b s i w)(hk:Kept B w w')(hB:B<=b):Rd b s i w':=by
 have hb:=hk.same b hB h.old.h;exact⟨⟨Nat.lt_of_lt_of_le h.old.h hk.size⟩,(World.cell?_of_block hb).trans h.c0,(World.cell?_of_block hb).trans h.c1,(World.frozen?_of_block hb).trans h.fr⟩
set_option maxRecDepth 512 in
theorem Zb7(s:ByteArray)(hs:s.size<4611686018427387900)(B:Nat)(w:World)(hB:B<w.heap.size)(hc:w.cell? ⟨B,0,none⟩=some (.string s)) :
  Zf2 Tryz.prog 243 #[.pointer (some ⟨B,0,none⟩)] (λ x:Nat=>#[.int .u64 (x:Int)]) (λ xs=>xs=Xj (KD s)) w:=by
 intro l J Jx W hW hJ hJx hY h0;have hc':W.cell? ⟨B,0,none⟩=some (.string s):=(hW.cell (p:=⟨B,0,none⟩) hB).trans hc;clear hc;refine(callsIn_wide (n:=3)).1 ?_;refine callsIn_of_wp Tryz.func243 rfl trivial ?_ rfl;simp only [Tryz.ntmps243,List.size_toArray,List.length_cons,List.length_nil,Nat.reduceAdd,Nat.reduceSub,Array.replicate_succ,Array.replicate_zero,List.push_toArray,List.append_toArray,List.nil_append,List.cons_append];have cP:=Zih s hs
 gi_wp2_with (first
  |(refine⟨trivial,?_⟩;gi_at_call 119;refine(callsIn_wide.2 (cP.at _)).mono ?_;rintro e w' ⟨rfl,g,rfl⟩)
  |(refine⟨trivial,?_⟩;gi_at_call 80;refine(callsIn_wide.2 (ZcQ _ _)).mono ?_;rintro e w' ⟨rfl,rfl⟩))
 obtain⟨V,hV⟩:∃ V,(gr W g).alloc (.cells #[.string (KD s),.int .i64 0] 239)=V:=⟨_,rfl⟩
 obtain⟨Z,hZ⟩:∃ Z,(gr W g).heap.size=Z:=⟨_,rfl⟩
 have hR0:Rd Z (KD s) 0 V:=by
  rw [<-hV,<- hZ];exact⟨ii,by simp [go_sem],by simp [go_sem],by simp [go_sem]⟩
 have hWV:Below W.heap.size W V:=by rw [<-hV];exact Z5 (Xc (Below.refl _ _) _) _
 have hJ0:J [] V:=hJ _ _ _ h0 hWV;have hZ0:W.heap.size<=Z:=by rw [<-hZ];exact kW _ _
 have hp4:=Zgf s;have hpl:(KD s).size<4611686018427387904:=by rw [jp];have:=jW s;omega
 rw [hV,hZ];clear hV hZ hc' cP;obtain⟨p,hp⟩:∃ p,KD s=p:=⟨_,rfl⟩
 rw [hp]at hR0 hY hp4 hpl ⊢;have HP:=Lib.hid hp;clear hp
 gi_loopw [] (λ wr=>∃ k:Nat,k<=Xk p/\Rd Z p (4*k) wr/\J (XR p k) wr)
  (λ wr=>p.size-(intOf ((wr.cell? ⟨Z,1,none⟩).getD undef)).toNat)
 case atStart=>exact⟨0,Nat.zero_le _,hR0,hJ0⟩
 case round =>
  obtain⟨k,hk,hR,hJk⟩:=hrel;have hk4:4*k<=p.size:=by unfold Xk at hk;omega
  have cL:=Zdz hk4 hpl wr hR
  by_cases hlt:k<Xk p
  ·have hlt4:4*k+4<=p.size:=by unfold Xk at hlt;omega
   gi_wp2_with (refine⟨trivial,?_⟩;gi_at_call 200;refine(callsIn_wide.2 cL).mono ?_;clear cL;rintro e w' ⟨rfl,g1,rfl⟩)
   have cU:=ZkO hlt4 hpl (gr wr g1) (hR.gr g1);have hX:num p (4*k) 4=yx p k:=rfl;have hXl:=kE p (4*k) 4 hlt4;rw [hX]at cU hXl;clear hX;obtain⟨X,hX⟩:∃ X,yx p k=X:=⟨_,rfl⟩
   rw [hX]at cU hXl;have HX:=Lib.hid hX;clear hX;have hXl':X<4294967296:=hXl;clear hXl
   gi_wp2_with (refine⟨trivial,?_⟩;gi_at_call 238;refine(callsIn_wide.2 cU).mono ?_;clear cU;rintro e w' ⟨rfl,g2,rfl⟩)
   obtain⟨V2,hV2⟩:∃ V2,gr ((gr wr g1).setCell ⟨Z,1,none⟩ (.int .i64 (4*(k:Int)+4))) g2=V2:=⟨_,rfl⟩
   have hb2:Below W.heap.size wr V2:=by
    haveI:=hR.old;haveI:JL W.heap.size wr:=⟨by have:=hR.old.h;omega⟩
    rw [<-hV2];exact Xc (Below.setCell (Xc (Below.refl _ _) _) hZ0 _) _
   have hR2:Rd Z p (4*(k+1)) V2:=by
    haveI:=hR.old;rw [<-hV2];exact⟨ii,by simp [go_sem,hR.c0],by simp [go_sem,hR.c1];omega,by simp [go_sem,hR.fr]⟩
   have hJ2:=hJ _ _ _ hJk hb2;obtain⟨fn,tmps,assign,body,hy,hYR⟩:=hY 2 _ X V2 hJ2 ⟨_,rfl,by rw [<-HX.out,<- Xv];exact jz p hlt⟩;rw [hV2];clear hV2 hb2 hJ2;rw [hy,Oper.uponIn_round];refine⟨λ h=>(by simp [Fence.wide]at h),?_⟩;refine hYR.mono ?_;have HJ:=Lib.hid hJ;clear hJ;rintro e W3 (⟨rfl,hJ3,hk3⟩|⟨rfl,hJx3⟩)
   ·have hR3:=hR2.kept hk3 hZ0
    gi_wp2
    go_roundw
    case rel=>exact⟨k+1,hlt,hR3,by rw [Xv,HX.out];exact hJ3⟩
    case measure =>
     rw [hR3.c1,hR.c1];simp [intOf];omega
   ·gi_wp2
    refine bodyPost_ret (results_none rfl _ _ _) rfl ?_;refine⟨⟨_,rfl⟩,.inr ⟨_,_,rfl,?_,hJx3⟩⟩;rw [HP.out,<- HX.out,<- Xv];exact jz p hlt
  ·obtain rfl:k=Xk p:=by omega
   have hz:4*Xk p=p.size:=by unfold Xk;omega
   rw [hz]at cL
   gi_wp2_with (refine⟨trivial,?_⟩;gi_at_call 200;refine(callsIn_wide.2 cL).mono ?_;clear cL;rintro e w' ⟨rfl,g1,rfl⟩)
   go_end0;refine⟨⟨_,rfl⟩,.inl ⟨_,rfl,?_⟩⟩;rw [HP.out];exact hJ _ _ _ hJk (Jz (Below.refl _ _) (by have:=hR.old.h;omega) _)
@[go_sem] theorem ZeZ (args:Array Value) (w:World):(callFunc 243 args).run Tryz.prog w=.ok (.enter 243 args) w:=enters_of Tryz.func243 (by kernel_rfl) rfl args w
set_option maxRecDepth 512 in
theorem ZfP(s:ByteArray)(w:World) :
  Calls Tryz.prog 221 #[.string s] w λ e w'=>e=.returned (.func (.func 243) #[] #[.pointer (some ⟨w.heap.size,0,none⟩)])/\w'=w.alloc (.cells #[.string s] 9):=by
 go_in
 go_wp2_with fail;go_ret;exact⟨rfl,rfl⟩
end Go.Proofs.YtlfjdjndhcmliaaGreatDoor
namespace Go.Proofs.YtlfjdjndhcmliaaGreatDoor
open Go.RowKit Go.Sort
abbrev MM:Nat:=18446744073709551616
structure S4 where
 a:Nat
 b:Nat
 c:Nat
 d:Nat
deriving DecidableEq
def S4.cs(x:S4):Array Value:=#[.int .u64 x.a,.int .u64 x.b,.int .u64 x.c,.int .u64 x.d]
def S4.v(x:S4):Value:=.agg x.cs
def S4.ok(x:S4):Prop:=x.a<MM/\x.b<MM/\x.c<MM/\x.d<MM
def S4.step(x:S4)(w:Nat):S4 :=
 ⟨(x.a+w)%MM,(x.b+(x.a+w)%MM)%MM,(x.c+(x.b+(x.a+w)%MM)%MM)%MM,(x.d+(x.c+(x.b+(x.a+w)%MM)%MM)%MM)%MM⟩
theorem S4.step_ok(x:S4)(w:Nat):(x.step w).ok:=by
 refine⟨?_,?_,?_,?_⟩<;>exact Nat.mod_lt _ (by decide)
def sums(x:S4)(ws:List Nat):S4:=ws.foldl S4.step x
theorem Zfp(x:S4)(ws:List Nat)(w:Nat):sums x (ws++[w])=(sums x ws).step w:=by simp [sums]
theorem V3{x:S4}(h:x.ok):∀ ws:List Nat,(sums x ws).ok
 | []=>h
 |w::ws=>V3 (x:=x.step w) (x.step_ok w) ws
theorem Qt(a b:Nat):IntKind.u64.wrap ((a:Int)+(b:Int))=(((a+b)%MM:Nat):Int):=by
 rw [IntKind.wrap_u64];simp [MM]
def Xm:S4:=⟨0,0,0,0⟩
theorem QX:Xm.ok:=by refine⟨?_,?_,?_,?_⟩<;>decide
attribute [local go_sem] Oper.semAt_some
theorem Km(W W':World)(g:Gr)(D:Nat)(hs:W.heap.size=W'.heap.size)(hD:W.heap.size<=D):(gr W g).heap[D]?=(gr W' g).heap[D]?:=by
 simp only [gr,grow,redrawn];rw [Array.getElem?_append_right (by exact hD),Array.getElem?_append_right (by show W'.heap.size<=D;omega)];show g.os[D-W.heap.size]?=g.os[D-W'.heap.size]?;rw [hs]
def nxt(p:S4 × Nat):Nat->S4 × Nat
 |0=>(⟨(p.1.a+p.2)%MM,p.1.b,p.1.c,p.1.d⟩,(p.1.a+p.2)%MM)
 |1=>(⟨p.1.a,(p.1.b+p.2)%MM,p.1.c,p.1.d⟩,(p.1.b+p.2)%MM)
 |2=>(⟨p.1.a,p.1.b,(p.1.c+p.2)%MM,p.1.d⟩,(p.1.c+p.2)%MM)
 |_=>(⟨p.1.a,p.1.b,p.1.c,(p.1.d+p.2)%MM⟩,(p.1.d+p.2)%MM)
def prt(y:S4)(x:Nat):Nat->S4 × Nat
 |0=>(y,x)
 |k+1=>nxt (prt y x k) k
theorem Zg5(y:S4)(x:Nat):(prt y x 4).1=y.step x:=rfl
def QL(w:World)(s:ByteArray)(x:S4):World:=((w.alloc (.cells x.cs 48)).alloc (.cells Xm.cs 48)).alloc (.cells #[.string s] 9)
theorem YV(w:World)(s:ByteArray)(x:S4):(QL w s x).heap.size=w.heap.size+3:=by simp [QL]
set_option maxRecDepth 512 in
theorem ZfG(x:S4)(hx:x.ok)(s:ByteArray)(hs:s.size<4611686018427387900) :
  KI Tryz.prog 174 #[x.v,.string s] (sums x (Xj (KD s))).v:=by
 intro w;refine(callsIn_wide (n:=3)).1 ?_;obtain⟨a,b,c,d⟩:=x;refine callsIn_of_wp_marks Tryz.func174 rfl trivial ?_ rfl;simp only [Tryz.ntmps174,List.size_toArray,List.length_cons,List.length_nil,Nat.reduceAdd,Nat.reduceSub,Array.replicate_succ,Array.replicate_zero,List.push_toArray,List.append_toArray,List.nil_append,List.cons_append,S4.v,S4.cs]
 gi_wp2_with (refine⟨trivial,?_⟩;gi_at_call 221;refine(callsIn_wide.2 (ZfP _ _)).mono ?_;rintro e w' ⟨rfl,rfl⟩)
 have hbw:∀ x:S4,Below w.heap.size w (QL w s x):=λ x=>Z5 (Z5 (Z5 (Below.refl _ _) _) _) _
 have hW0:Hid ((((w.alloc (.cells #[.int .u64 (a:Int),.int .u64 (b:Int),.int .u64 (c:Int),.int .u64 (d:Int)] 48)).alloc (.cells #[.int .u64 0,.int .u64 0,.int .u64 0,.int .u64 0] 48)).alloc (.cells #[.string s] 9))=QL w s ⟨a,b,c,d⟩):=rfl;rw [hW0.out]
 refine kM (gf:=243) (lb:=#[.pointer (some ⟨w.heap.size+1+1,0,none⟩)]) rfl ZeZ
  (Zb7 s hs (w.heap.size+1+1) (QL w s ⟨a,b,c,d⟩) (by rw [YV];omega) (by simp [QL,go_sem])) (Below.refl _ _) (λ _=>rfl)
  (λ pre W=>∃ g:Gr,W=gr (QL w s (sums ⟨a,b,c,d⟩ pre)) g) (λ _ _ _=>False)
  (Zjq (λ pre=>QL w s (sums ⟨a,b,c,d⟩ pre)) (λ _=>by rw [YV,YV])) (λ _=>Zej _)
  (Y1 _)
  (λ x=>{ tmps:=#[.agg #[.int .u64 (a:Int),.int .u64 (b:Int),.int .u64 (c:Int),.int .u64 (d:Int)],
     .string s,.pointer (some ⟨w.heap.size,0,none⟩),undef,.pointer (some ⟨w.heap.size+1,0,none⟩),.int .u64 (x:Int),undef,.string s,
     .func (.func 243) #[] #[.pointer (some ⟨w.heap.size+1+1,0,none⟩)],.int .u64 (x:Int),undef,
     undef,undef,undef,undef,undef,undef,undef,undef,undef,undef,undef,undef,undef],defers:=[] }) ?assign ?body ?done ?stop
 case assign =>
  intro l m x W K hK
  gi_wp2
  exact hK
 case body =>
  rintro l m pre x W ⟨g,rfl⟩ _;have hfin:∀ W':World,(∃ g:Gr,W'=gr (QL w s ((sums ⟨a,b,c,d⟩ pre).step x)) g)->∃ g:Gr,W'=gr (QL w s (sums ⟨a,b,c,d⟩ (pre++[x]))) g:=λ W' h=>by rw [Zfp];exact h
  have HF:=Lib.hid hfin;clear hfin;generalize sums ⟨a,b,c,d⟩ pre=y at *
  obtain⟨Y,hY⟩:∃ Y,y=Y:=⟨_,rfl⟩
  rw [hY]at HF ⊢;clear hY
  gi_wp2
  gi_loopw [5,10] (λ v i wr=>∃ k:Nat,k<=4/\i=.int .i64 k/\v=.int .u64 ((prt Y x k).2:Int)/\wr=gr (QL w s (prt Y x k).1) g)
   (λ _ i _=>4-(intOf i).toNat)
  case atStart=>exact⟨0,by omega,rfl,rfl,rfl⟩
  case round =>
   obtain⟨k,hk,rfl,rfl,rfl⟩:=hrel;obtain⟨⟨⟨p0,p1,p2,p3⟩,q⟩,hp⟩:∃ p,prt Y x k=p:=⟨_,rfl⟩
   rw [hp];have hm:QL w s ⟨p0,p1,p2,p3⟩=(((w.alloc (.cells #[.int .u64 (p0:Int),.int .u64 (p1:Int),.int .u64 (p2:Int),.int .u64 (p3:Int)] 48)).alloc (.cells #[.int .u64 0,.int .u64 0,.int .u64 0,.int .u64 0] 48)).alloc (.cells #[.string s] 9)):=rfl;simp only [];rw [hm];have HP:=Lib.hid hp;clear hp hm;rcases(show k=0\/k=1\/k=2\/k=3\/k=4 by omega)with rfl|rfl|rfl|rfl|rfl
   ·have e:prt Y x 1=(⟨(p0+q)%MM,p1,p2,p3⟩,(p0+q)%MM):=by rw [prt,HP.out];rfl
    have HE:=Lib.hid e;clear e
    gi_wp2
    go_roundw
    case rel=>exact⟨1,by omega,rfl,by rw [HE.out,Qt],by rw [HE.out,Qt];rfl⟩
    case measure=>simp [intOf]
   ·have e:prt Y x 2=(⟨p0,(p1+q)%MM,p2,p3⟩,(p1+q)%MM):=by rw [prt,HP.out];rfl
    have HE:=Lib.hid e;clear e
    gi_wp2
    go_roundw
    case rel=>exact⟨2,by omega,rfl,by rw [HE.out,Qt],by rw [HE.out,Qt];rfl⟩
    case measure=>simp [intOf]
   ·have e:prt Y x 3=(⟨p0,p1,(p2+q)%MM,p3⟩,(p2+q)%MM):=by rw [prt,HP.out];rfl
    have HE:=Lib.hid e;clear e
    gi_wp2
    go_roundw
    case rel=>exact⟨3,by omega,rfl,by rw [HE.out,Qt],by rw [HE.out,Qt];rfl⟩
    case measure=>simp [intOf]
   ·have e:prt Y x 4=(⟨p0,p1,p2,(p3+q)%MM⟩,(p3+q)%MM):=by rw [prt,HP.out];rfl
    have HE:=Lib.hid e;clear e
    gi_wp2
    go_roundw
    case rel=>exact⟨4,by omega,rfl,by rw [HE.out,Qt],by rw [HE.out,Qt];rfl⟩
    case measure=>simp [intOf]
   ·have e:⟨p0,p1,p2,p3⟩=Y.step x:=by rw [<-Zg5,HP.out]
    have hk4:Kept (QL w s ⟨a,b,c,d⟩).heap.size (gr (QL w s Y) g) (gr (QL w s ⟨p0,p1,p2,p3⟩) g) :=
     ⟨by rw [Yl,Yl,YV,YV];omega,λ k hk _=>Km _ _ g k (by rw [YV,YV]) (by rw [YV]at hk ⊢;exact hk)⟩
    gi_wp2
    exact⟨hk4,HF.out _ ⟨g,by rw [<-e];rfl⟩⟩
 case done =>
  rintro D ys W hD rfl ⟨g,rfl⟩ hK;rw [YV]at hD;generalize sums ⟨a,b,c,d⟩ (Xj (KD s))=z at *
  obtain⟨z0,z1,z2,z3⟩:=z;have hm:QL w s ⟨z0,z1,z2,z3⟩=(((w.alloc (.cells #[.int .u64 (z0:Int),.int .u64 (z1:Int),.int .u64 (z2:Int),.int .u64 (z3:Int)] 48)).alloc (.cells #[.int .u64 0,.int .u64 0,.int .u64 0,.int .u64 0] 48)).alloc (.cells #[.string s] 9)):=rfl;obtain⟨W2,hW2⟩:∃ W2,(((w.alloc (.cells #[.int .u64 (z0:Int),.int .u64 (z1:Int),.int .u64 (z2:Int),.int .u64 (z3:Int)] 48)).alloc (.cells #[.int .u64 (z0:Int),.int .u64 (z1:Int),.int .u64 (z2:Int),.int .u64 (z3:Int)] 48)).alloc (.cells #[.string s] 9))=W2:=⟨_,rfl⟩
  have hs2:W2.heap.size=w.heap.size+3:=by rw [<-hW2];simp
  have hK2:(gr W2 g).heap[D]?=some (.deferred (some [])):=(Km _ _ g D (by rw [hs2,YV]) (by omega)).trans hK;rw [hm];have HK:=Lib.hid hK2;clear hK hK2 hm
  gi_wp2
  refine⟨by simp,.inl ⟨_,_,rfl,run_takeDeferred HK.out,?_⟩⟩
  have hcell:((gr W2 g).putObj D (.deferred none)).heap[w.heap.size+1]?=some (.cells #[.int .u64 (z0:Int),.int .u64 (z1:Int),.int .u64 (z2:Int),.int .u64 (z3:Int)] 48 (0,0)):=by
   rw [World.putObj_heap_other (by omega),XQ _ _ (by omega),<- hW2,Below.heap_alloc _ _ _ (by simp)];have h:=World.alloc_heap_new (w.alloc (.cells #[.int .u64 (z0:Int),.int .u64 (z1:Int),.int .u64 (z2:Int),.int .u64 (z3:Int)] 48)) (.cells #[.int .u64 (z0:Int),.int .u64 (z1:Int),.int .u64 (z2:Int),.int .u64 (z3:Int)] 48)
   rwa [World.size_alloc]at h
  refine⟨_,results_cell_row rfl _ _ (w.heap.size+1) 48 _ _ _ rfl hcell Tryz.underlying48 rfl (by kernel_rfl),rfl,?_⟩
  have hb2:Below w.heap.size w (gr W2 g):=by
   rw [<-hW2];(repeat' (first|(with_reducible exact Below.refl _ _)|(with_reducible refine Xc ?_ _)|(with_reducible refine Z5 ?_ _)|(with_reducible refine Below.setCell ?_ ?_ _)|(with_reducible refine Below.drew ?_)|(simp [go_sem];done)|(simp [go_sem];omega)))
  exact hb2.trans (Xw _ D _ _ (by omega) HK.out hb2.size)
 case stop =>
  rintro D c pre W _ _ h _;exact h.elim
set_option maxRecDepth 512 in
theorem ZiB(s:ByteArray)(hs:s.size<4611686018427387900):KI Tryz.prog 122 #[.string s] (sums Xm (Xj (KD s))).v:=by
 intro w;have c:KI Tryz.prog 174 #[.agg #[.int .u64 0,.int .u64 0,.int .u64 0,.int .u64 0],.string s] (sums Xm (Xj (KD s))).v:=ZfG Xm QX s hs;generalize sums Xm (Xj (KD s))=z at c ⊢;obtain⟨z0,z1,z2,z3⟩:=z;simp only [S4.v,S4.cs]at c ⊢
 go_in
 go_wp2_with(go_at_call 174;with_reducible refine(c.at _).mono ?_;rintro e w' ⟨rfl,g,rfl⟩)
 have hcell:(gr (w.alloc (.cells #[.int .u64 (z0:Int),.int .u64 (z1:Int),.int .u64 (z2:Int),.int .u64 (z3:Int)] 48)) g).heap[w.heap.size]?=some (.cells #[.int .u64 (z0:Int),.int .u64 (z1:Int),.int .u64 (z2:Int),.int .u64 (z3:Int)] 48 (0,0)):=by
  rw [XQ _ _ (by simp)];exact World.alloc_heap_new _ _
 exact bodyPost_ret (results_cell_row rfl _ _ w.heap.size 48 _ _ _ rfl hcell Tryz.underlying48 rfl (by kernel_rfl)) rfl (ZM.mk rfl grown)
end Go.Proofs.YtlfjdjndhcmliaaGreatDoor
namespace Go.Proofs.YtlfjdjndhcmliaaGreatDoor
open Go.RowKit Go.Sort
inductive Zk where
 |d
 |q (l:List Nat) (n:Zk)
 |f (l:List Nat) (n:Zk)
 |x (l:List Nat) (n:Zk)
 |c (i:Nat) (n:Zk)
 |g (i:Nat) (n:Zk)
 |y (i j:Nat) (n m:Zk)
 |z (i j:Nat) (n m:Zk)
@[go_sem] def YL (w w':World):Prop:=∃ p:Gr,w'=gr w p
def Nx(K:Act->World->Prop):Exit->Act->World->Prop
 | .normal,a,w=>K a w
 |_,_,_=>False
def pick(ops:List Oper):List Nat->List Oper
 | []=>[]
 |i::l=>(match ops[i]? with
  |some o=>[o]
  |none=>[])++pick ops l
def Zle(_:World):Prop:=True
def ZjK:Op->Bool
 | .move _ | .assign _ | .pick .. | .build .. | .binOp .. | .unOp .. | .field .. | .fieldAddr .. | .index .. | .indexAddr .. | .extract ..=>true
 |_=>false
def calm:Op->Bool
 | .load .. | .slice .. | .lookup .. | .nilCheck _ | .convert .. | .makeInterface ..=>true
 | .call c=>match c.callee with
  | .builtin .len | .builtin .cap | .builtin .min | .builtin .max=>true
  |_=>false
 |o=>ZjK o
section
variable{P:Program}{ops:Array Oper}{md:Region.Mode}{Q:Exit->Act->World->Prop}{C:World->Prop}
def Zk.run(P:Program)(ops:List Oper)(Q:Exit->Act->World->Prop):Zk->(World->Prop)->Act->Prop
 | .d,C,a=>∀ w,C w->Q .normal a w
 | .q l n,C,a=>wpQuiet P ops.toArray C (n.run P ops Q C) (pick ops l) a
 | .f l n,C,a=>wpQuiet P ops.toArray Zle (n.run P ops Q C) (pick ops l) a
 | .x l n,C,a=>∀ w,C w->wpList P ops.toArray (Nx λ a' w'=>n.run P ops Q (YL w') a') (pick ops l) a w
 | .c i n,C,a=>match ops[i]? with
  |some o=>∃ v,(∀ w,C w->o.quietAt P a (YL w) w v)/\n.run P ops Q C (a.put o.dst v)
  |none=>False
 | .g i n,C,a=>∀ w,C w->wpList P ops.toArray (Nx λ a' w'=>C w'/\n.run P ops Q (YL w') a') (pick ops [i]) a w
 | .y i j n m,C,a=>(∀ w,C w->wpList P ops.toArray (Nx λ a' w'=>n.run P ops Q (YL w') a') (pick ops [i]) a w) /\
   ∀ w,C w->wpList P ops.toArray (Nx λ a' w'=>C w'/\m.run P ops Q (YL w') a') (pick ops [j]) a w
 | .z i j n m,C,a=>(∀ w,C w->wpList P ops.toArray (Nx λ a' w'=>C w'/\n.run P ops Q (YL w') a') (pick ops [i]) a w) /\
   ∀ w,C w->wpList P ops.toArray (Nx λ a' w'=>C w'/\m.run P ops Q (YL w') a') (pick ops [j]) a w
def forced(md:Region.Mode)(ops:Array Oper):Nat->Nat->Nat->Bool
 |0,_,_=>false
 |f+1,j,i=>match ops[j]? with
  |some oj=>oj.after.any λ e=>Region.binds md e&&(e.on==i||forced md ops f e.on i)
  |none=>false
def Zk.louds:Zk->List Nat
 | .d=>[]
 | .q _ n | .f _ n | .c _ n=>n.louds
 | .x l n=>l++n.louds
 | .g i n=>i::n.louds
 | .y i j n m | .z i j n m=>i::j::(n.louds++m.louds)
def Zk.gentles:Zk->List Nat
 | .d=>[]
 | .q _ n | .f _ n | .c _ n | .x _ n=>n.gentles
 | .g i n=>i::n.gentles
 | .y _ j n m=>j::(n.gentles++m.gentles)
 | .z i j n m=>i::j::(n.gentles++m.gentles)
def Ug(md:Region.Mode)(ops:Array Oper)(loud gentle:List Nat)(listed:Array Bool)(i:Nat):Bool :=
 loud.all λ j=>listed.getD j false||forced md ops ops.size j i||gentle.contains j
def opB(ops:Array Oper)(p:Op->Bool)(i:Nat):Bool:=((ops[i]?).map λ o=>p o.op).getD false
def okQ(md:Region.Mode)(ops:Array Oper)(loud gentle:List Nat)(hard:Bool)(k:Array Bool->Bool):List Nat->Array Bool->Bool
 | [],listed=>k listed
 |i::l,listed=>(Region.ready md ops listed).contains i&&Region.free md ops listed i&&!loud.contains i &&
   (if hard then Ug md ops loud [] listed i||Ug md ops loud gentle listed i&&opB ops calm i else opB ops ZjK i) &&
   okQ md ops loud gentle hard k l (listed.setIfInBounds i true)
def okX(md:Region.Mode)(ops:Array Oper)(loud gentle:List Nat)(k:Array Bool->Bool):List Nat->Array Bool->Bool
 | [],listed=>k listed
 |i::l,listed=>decide (Region.ready md ops listed=[i])&&loud.contains i&&!gentle.contains i&&okX md ops loud gentle k l (listed.setIfInBounds i true)
def Zk.ok(md:Region.Mode)(ops:Array Oper)(loud gentle:List Nat):Zk->Array Bool->Bool
 | .d,listed=>(Region.ready md ops listed).isEmpty
 | .q l n,listed=>okQ md ops loud gentle true (n.ok md ops loud gentle) l listed
 | .f l n,listed=>okQ md ops loud gentle false (n.ok md ops loud gentle) l listed
 | .x l n,listed=>okX md ops loud gentle (n.ok md ops loud gentle) l listed
 | .c i n,listed=>(Region.ready md ops listed).contains i&&Region.free md ops listed i&&!loud.contains i&&Ug md ops loud gentle listed i&&opB ops (λ _=>true) i&&((ops[i]?).map λ o=>o.guard.isNone).getD false&&n.ok md ops loud gentle (listed.setIfInBounds i true)
 | .g i n,listed=>decide (Region.ready md ops listed=[i])&&loud.contains i&&n.ok md ops loud gentle (listed.setIfInBounds i true)
 | .y i j n m,listed=>(Region.ready md ops listed).all (λ k=>k==i||k==j)&&!(Region.ready md ops listed).isEmpty&&loud.contains i&&loud.contains j&&!gentle.contains i&&n.ok md ops loud gentle (listed.setIfInBounds i true)&&m.ok md ops loud gentle (listed.setIfInBounds j true)
 | .z i j n m,listed=>(Region.ready md ops listed).all (λ k=>k==i||k==j)&&!(Region.ready md ops listed).isEmpty&&loud.contains i&&loud.contains j&&n.ok md ops loud gentle (listed.setIfInBounds i true)&&m.ok md ops loud gentle (listed.setIfInBounds j true)
def Closed(md:Region.Mode)(ops:Array Oper)(listed:Array Bool):Prop:=∀(j:Nat)(oj:Oper),ops[j]?=some oj->listed.getD j false=true->∀ e∈oj.after,Region.binds md e=true->listed.getD e.on false=true
theorem Closed.set{listed:Array Bool}{i:Nat}(h:Closed md ops listed)(hi:i∈Region.ready md ops listed):Closed md ops (listed.setIfInBounds i true):=by
 obtain⟨_,oi,hoi,hall⟩:=mem_ready.1 hi;intro j oj hj hl e he hb
 by_cases hij:i=j
 ·subst hij;obtain rfl:oj=oi:=Option.some.inj (hj.symm.trans hoi);exact getD_set_true (hall e he hb)
 ·rw [getD_set_ne false hij]at hl;exact getD_set_true (h j oj hj hl e he hb)
theorem K8{listed:Array Bool}(h:Closed md ops listed){i:Nat}:∀(f j:Nat)(oj:Oper),ops[j]?=some oj->forced md ops f j i=true->(∀ e∈oj.after,Region.binds md e=true->listed.getD e.on false=true)->listed.getD i false=true
 |0,_,_,_,hf,_=>by cases hf
 |f+1,j,oj,hj,hf,hall=>by
  simp only [forced,hj]at hf;obtain⟨e,he,hb⟩:=Array.any_eq_true'.1 hf;simp only [Bool.and_eq_true,Bool.or_eq_true,beq_iff_eq]at hb;rcases hb.2 with h1|h1
  ·rw [<-h1];exact hall e he hb.1
  ·have hl:=hall e he hb.1
   have hoe:∃ o,ops[e.on]?=some o:=by
    cases ho:ops[e.on]? with
    |some o=>exact⟨o,rfl⟩
    |none=>cases f with
     |zero=>cases h1
     |succ f=>simp [forced,ho]at h1
   obtain⟨oe,hoe⟩:=hoe;exact K8 h f e.on oe hoe h1 (h e.on oe hoe hl)
def NoQ:Exit->Act->World->Prop:=λ _ _ _=>False
def GC(D:World->Prop):Prop:=∀ w w',D w->YL w w'->D w'
open Classical in
def Uo(P:Program)(md:Region.Mode)(ops:Array Oper)(loud gentle:List Nat)(Q:Exit->Act->World->Prop):Nat->(World->Prop)->Array Bool->Act->Prop
 |0,C,listed,a=>Region.ready md ops listed=[]/\∀ w,C w->Q .normal a w
 |f+1,C,listed,a=>Region.ready md ops listed≠[]/\∀ i∈Region.ready md ops listed,
   if i∈loud then ∀ w,C w->wpOp P ops NoQ i (λ a' w'=>∃ D:World->Prop,D w'/\(i∈gentle->GC D/\∀ w,D w->C w)/\Uo P md ops loud gentle Q f D (listed.setIfInBounds i true) a') a w
   else qOp P ops C i (Uo P md ops loud gentle Q f C (listed.setIfInBounds i true)) a
theorem Zhb{o:Oper}{a:Act}{w:World}{K:Act->World->Prop}{Q Q':Exit->Act->World->Prop}(hq:∀ e a w,Q e a w->False)(h:o.wp P a w K Q):o.wp P a w K Q':=by
 unfold Oper.wp at *
 generalize (execOp a.eval o).run P w=r at *
 cases r with
 |ok n w' =>
  cases n<;>simp only [Oper.upon]at h ⊢<;>first
   |exact h
   |exact Calls.mono h (λ e w'' he=>by
     cases e with
     |returned v=>exact he
     |panicked c=>exact(hq _ _ _ he).elim
     |outgrown=>obtain⟨x,y,hxy⟩:=he;exact(hq _ _ _ hxy).elim)
 |halt x w'=>cases x<;>simp only [Oper.upon]at h ⊢<;>exact(hq _ _ _ h).elim
theorem Zaz{i:Nat}{a:Act}{w:World}{K:Act->World->Prop}{Q':Exit->Act->World->Prop}(h:wpOp P ops NoQ i K a w):wpOp P ops Q' i K a w:=by
 unfold wpOp at *
 split
 ·simpa [*]using h
 ·rename_i o ho;simp only [ho]at h;split
  ·rename_i hw;simp only [hw,if_true]at h;rcases h with h|⟨_,_,_,h⟩
   ·exact .inl (Zhb (λ _ _ _ h=>h) h)
   ·exact h.elim
  ·rename_i hw;simp only [hw]at h;exact h
theorem JK{loud gentle:List Nat}:∀(f:Nat)(C:World->Prop)(listed:Array Bool)(a:Act)(w:World),C w->Uo P md ops loud gentle Q f C listed a->wpAny P md ops Q f listed a w
 |0,_,_,_,w,hw,h=>⟨h.1,h.2 w hw⟩
 |f+1,C,listed,a,w,hw,h=>⟨λ h0=>absurd h0 h.1,λ i hi=>by
   have h1:=h.2 i hi;split at h1
   ·exact Zaz (wpOp_mono (λ a' w' ⟨D,hD,_,h'⟩=>JK f D _ a' w' hD h') (h1 w hw))
   ·exact wpOp_of_qOp hw (λ a' w' hw' h'=>JK f C _ a' w' hw' h') h1⟩
theorem Uj{j:Nat}{oi oj:Oper}{v:Value}(hj:ops[j]?=some oj)(hap:oi.apart ops oj=true)(hsj:∀ cs b,oj.op≠.select cs b){K Y:Act->Prop}{a:Act}(hY:∀ u,Y (a.put oj.dst u))(h:qOp P ops C j K (a.put oi.dst v)) :
  qOp P ops C j (λ a'=>Y a'/\K (a'.put oi.dst v)) a:=by
 obtain⟨h1,h2,h3⟩:=Oper.apart_spec hap;unfold qOp at *
 simp only [hj]at *
 rw [wanted_put oj a oi.dst v h1]at h;split
 ·rename_i hw;simp only [hw,if_true]at h;obtain⟨u,hu,hn⟩:=h;refine⟨u,λ w hw'=>?_,hY u,by rw [<-Act.put_comm a v u h2];exact hn⟩;have:=hu w hw';unfold Oper.quietAt at *
  rwa [execOp_put oj hsj a oi.dst v h1]at this
 ·rename_i hw;simp only [hw]at h;exact⟨hY _,by rw [<-Act.put_comm a v undef h2];exact h⟩
theorem ZeG(a:Act)(x:Option Tmp)(v:Value)(l:List Deferred):({ a with defers:=l }:Act).put x v={ a.put x v with defers:=l }:=by cases x<;>rfl
theorem zH{j:Nat}{oi oj:Oper}{v:Value}(hj:ops[j]?=some oj)(hap:oi.apart ops oj=true)(hsj:∀ cs b,oj.op≠.select cs b){K:Act->World->Prop}{Y:Act->Prop}{a:Act}{w:World}(hY:∀ u l,Y (({ a with defers:=l }:Act).put oj.dst u))(h:wpOp P ops NoQ j K (a.put oi.dst v) w) :
  wpOp P ops NoQ j (λ a' w'=>Y a'/\K (a'.put oi.dst v) w') a w:=by
 obtain⟨h1,h2,h3⟩:=Oper.apart_spec hap;unfold wpOp at *
 simp only [hj]at *
 rw [wanted_put oj a oi.dst v h1]at h;split
 ·rename_i hw;simp only [hw,if_true]at h;refine .inl ?_;replace h:=h.resolve_right λ⟨_,_,_,h⟩=>h
  unfold Oper.wp at *
  rw [execOp_put oj hsj a oi.dst v h1]at h;have key:∀ u w',K ((a.put oi.dst v).put oj.dst u) w'->Y (a.put oj.dst u)/\K ((a.put oj.dst u).put oi.dst v) w':=λ u w' hk=>⟨hY u a.defers,by rw [<-Act.put_comm a v u h2];exact hk⟩
  generalize hr:(execOp a.eval oj).run P w=r at *
  cases r with
  |ok n w' =>
   cases n<;>simp only [Oper.upon]at h ⊢<;>first
    |exact key _ _ h
    |exact Calls.mono h (λ e w'' he=>by
      cases e with
      |returned v=>exact key _ _ he
      |panicked c=>exact he.elim
      |outgrown=>obtain⟨x,y,hxy⟩:=he;exact hxy.elim)
    |exact Rows.mono h (λ _ _ he=>key _ _ he)
    |exact⟨hY _ _,by
      rw [<-Act.put_comm _ v undef h2];have e:∀ l,({ a with defers:=l }:Act).put oi.dst v={ a.put oi.dst v with defers:=l }:=λ l=>ZeG a _ v l
      have e2:(a.put oi.dst v).defers=a.defers:=by cases oi.dst<;>rfl
      rw [e,<- e2];exact h⟩
  |halt x w'=>cases x<;>simp only [Oper.upon]at h ⊢<;>exact h.elim
 ·rename_i hw;simp only [hw]at h;exact⟨hY _ a.defers,by rw [<-Act.put_comm a v undef h2];exact h⟩
theorem Xr{oi oj:Oper}{v:Value}{a:Act}(hsi:∀ cs b,oi.op≠.select cs b)(h3:∀ d,oj.dst=some d->d ∉ oi.looksAt ops)(hy:YieldsIn P ops C oi v a)(u:Value)(l:List Deferred):YieldsIn P ops C oi v (({ a with defers:=l }:Act).put oj.dst u):=by
 have h1:YieldsIn P ops C oi v ({ a with defers:=l }:Act):=hy.of_same rfl rfl;exact h1.of_same (execOp_put oi hsi _ oj.dst u h3) (wanted_put oi _ oj.dst u h3)
def XO(P:Program)(ops:Array Oper)(C:World->Prop)(o:Oper)(v:Value)(a:Act):Prop :=
 (Region.wanted o (yielded ops a.tmps)=true/\∀ w,C w->o.quietAt P a (YL w) w v)\/(Region.wanted o (yielded ops a.tmps)=false/\v=undef)
theorem kD{C D:World->Prop}{w:World}{v:Value}{r:Result Next}(h:Oper.quietUpon P C w v r)(hm:∀ w',C w'->D w'):Oper.quietUpon P D w v r:=by
 cases r with
 |ok n w' =>
  cases n<;>first
   |exact h
   |exact⟨h.1,h.2.mono λ e w'' ⟨he,hc⟩=>⟨he,hm _ hc⟩⟩
 |halt x w'=>exact h
theorem XO.into{D:World->Prop}{o:Oper}{v:Value}{a:Act}(h:XO P ops C o v a)(hm:∀ w,D w->C w)(hg:GC D):YieldsIn P ops D o v a :=
 h.imp (λ⟨hw,h⟩=>⟨hw,λ w hd=>kD (h w (hm w hd)) λ _ h=>hg _ _ hd h⟩) id
theorem XO.mono{D:World->Prop}{o:Oper}{v:Value}{a:Act}(h:XO P ops C o v a)(hm:∀ w,D w->C w):XO P ops D o v a :=
 h.imp (λ⟨hw,h⟩=>⟨hw,λ w hd=>h w (hm w hd)⟩) id
theorem ju{oi oj:Oper}{v:Value}{a:Act}(hsi:∀ cs b,oi.op≠.select cs b)(h3:∀ d,oj.dst=some d->d ∉ oi.looksAt ops)(hy:XO P ops C oi v a)(u:Value)(l:List Deferred):XO P ops C oi v (({ a with defers:=l }:Act).put oj.dst u):=by
 have e1:execOp (({ a with defers:=l }:Act).put oj.dst u).eval oi=execOp a.eval oi:=execOp_put oi hsi ({ a with defers:=l }:Act) oj.dst u h3;have e2:Region.wanted oi (yielded ops (({ a with defers:=l }:Act).put oj.dst u).tmps)=Region.wanted oi (yielded ops a.tmps):=wanted_put oi ({ a with defers:=l }:Act) oj.dst u h3;unfold XO Oper.quietAt at *
 rw [e1,e2];exact hy
def ZfQ(P:Program)(md:Region.Mode)(ops:Array Oper)(loud gentle:List Nat)(C:World->Prop)(listed:Array Bool)(i:Nat)(oi:Oper)(v:Value)(a:Act):Prop :=
 YieldsIn P ops C oi v a/\(((∀ j∈loud,listed.getD j false=true\/forced md ops ops.size j i=true)\/∀ D:World->Prop,YieldsIn P ops D oi v a) \/
  (XO P ops C oi v a/\∀ j∈loud,listed.getD j false=true\/forced md ops ops.size j i=true\/j∈gentle))
theorem UD{loud gentle:List Nat}{i:Nat}{oi:Oper}{v:Value}(hi:ops[i]?=some oi)(hil:i ∉ loud)(hsel:∀(j:Nat)(o:Oper) cs b,ops[j]?=some o->o.op≠.select cs b) :
  ∀(f:Nat)(C:World->Prop)(listed:Array Bool)(a:Act),Closed md ops listed ->
   (∀ j oj,ops[j]?=some oj->j≠i->listed.getD j true=false->(∀ e∈oj.after,Region.binds md e=true->e.on≠i)->oi.apart ops oj=true) ->
   i∈Region.ready md ops listed->ZfQ P md ops loud gentle C listed i oi v a ->
   Uo P md ops loud gentle Q f C (listed.setIfInBounds i true) (a.put oi.dst v)->Uo P md ops loud gentle Q (f+1) C listed a:=by
 intro f
 induction f with
 |zero =>
  intro C listed a _ _ hr hy H;refine⟨λ h=>(by rw [h]at hr;cases hr),λ j hj=>?_⟩
  by_cases hji:j=i
  ·subst hji;rw [if_neg hil];exact hy.1.qOp hi H
  ·have:=ready_mono hj hji;rw [H.1]at this;cases this
 |succ f ih =>
  intro C listed a hcl hfree hr hy H;refine⟨λ h=>(by rw [h]at hr;cases hr),λ j hj=>?_⟩
  by_cases hji:j=i
  ·subst hji;rw [if_neg hil];exact hy.1.qOp hi H
  ·have h1:=H.2 j (ready_mono hj hji);obtain⟨hjun,oj,hoj,hall⟩:=mem_ready.1 hj;have hiun:=getD_both (mem_ready.1 hr).1
   have hnot:∀ e∈oj.after,Region.binds md e=true->e.on≠i:=λ e he hb heq=>by
    have h1:=hall e he hb;rw [heq,hiun]at h1;cases h1
   have hap:=hfree j oj hoj hji hjun hnot;have h3:=(Oper.apart_spec hap).2.2;have hsi:∀ cs b,oi.op≠.select cs b:=λ cs b=>hsel i oi cs b hi
   have hfree':∀ k ok,ops[k]?=some ok->k≠i->(listed.setIfInBounds j true).getD k true=false ->
     (∀ e∈ok.after,Region.binds md e=true->e.on≠i)->oi.apart ops ok=true:=λ k ok hk hki hun hno=>by
    refine hfree k ok hk hki ?_ hno
    by_cases hjk:j=k
    ·subst hjk;exact hjun
    ·rw [getD_set_ne true hjk]at hun;exact hun
   have hcl':=hcl.set hj;have hr':=ready_mono hr (Ne.symm hji);have hset:∀ k,listed.getD k false=true->(listed.setIfInBounds j true).getD k false=true:=λ k h=>getD_set_true h
   have hnj:listed.getD j false=true\/forced md ops ops.size j i=true->False:=λ h=>by
    rcases h with h2|h2
    ·rw [getD_both hjun]at h2;cases h2
    ·have:=K8 hcl _ j oj hoj h2 hall;rw [hiun]at this;cases this
   by_cases hjl:j∈loud
   ·rw [if_pos hjl]at h1 ⊢;intro w hw;rcases hy.2 with (h|hall')|⟨hyG,h⟩
    ·exact(hnj (h j hjl)).elim
    ·refine wpOp_mono (λ a' w' h5=>?_) (zH (Y:=λ a'=>∀ D:World->Prop,YieldsIn P ops D oi v a') hoj hap (λ cs b=>hsel j oj cs b hoj) (λ u l D=>Xr hsi h3 (hall' D) u l) (h1 w hw));obtain⟨hy5,D,hD,hg,h5⟩:=h5;refine⟨D,hD,hg,ih D (listed.setIfInBounds j true) a' hcl' hfree' hr' ⟨hy5 _,.inl (.inr hy5)⟩ ?_⟩;rw [Array.setIfInBounds_comm _ _ hji];exact h5
    ·have hjg:j∈gentle:=by
      rcases h j hjl with h2|h2|h2
      ·exact(hnj (.inl h2)).elim
      ·exact(hnj (.inr h2)).elim
      ·exact h2
     refine wpOp_mono (λ a' w' h5=>?_) (zH (Y:=λ a'=>XO P ops C oi v a') hoj hap (λ cs b=>hsel j oj cs b hoj) (λ u l=>ju hsi h3 hyG u l) (h1 w hw));obtain⟨hy5,D,hD,hg,h5⟩:=h5;obtain⟨hgc,hsub⟩:=hg hjg;refine⟨D,hD,hg,ih D (listed.setIfInBounds j true) a' hcl' hfree' hr' ⟨hy5.into hsub hgc,.inr ⟨hy5.mono hsub,λ k hk=>(h k hk).imp (hset k) id⟩⟩ ?_⟩;rw [Array.setIfInBounds_comm _ _ hji];exact h5
   ·rw [if_neg hjl]at h1 ⊢;refine qOp_mono (λ a' h5=>ih C (listed.setIfInBounds j true) a' hcl' hfree' hr' h5.1 ?_) (Uj (Y:=λ a'=>ZfQ P md ops loud gentle C (listed.setIfInBounds j true) i oi v a') hoj hap (λ cs b=>hsel j oj cs b hoj) (λ u=>?_) h1)
    ·rw [Array.setIfInBounds_comm _ _ hji];exact h5.2
    ·refine⟨Xr hsi h3 hy.1 u a.defers,?_⟩;rcases hy.2 with (h|hall')|⟨hyG,h⟩
     ·exact .inl (.inl λ k hk=>(h k hk).imp (hset k) id)
     ·exact .inl (.inr λ D=>Xr hsi h3 (hall' D) u a.defers)
     ·exact .inr ⟨ju hsi h3 hyG u a.defers,λ k hk=>(h k hk).imp (hset k) id⟩
theorem Kl{s:Sem Value}{w w':World}{f:FuncId}{args:Array Value}:(do pure (Next.value (<- s)):Sem Next).run P w≠.ok (.enter f args) w':=by
 rw [Sem.run_bind];cases s.run P w<;>simp [Result.andThen]
theorem Jy{α:Type}{s:Sem α}{k:α->Sem Next}{w w':World}{f:FuncId}{args:Array Value}(h:∀ a w,(k a).run P w≠.ok (.enter f args) w'):(s >>= k).run P w≠.ok (.enter f args) w':=by
 rw [Sem.run_bind];cases s.run P w<;>simp [Result.andThen,h]
theorem jx{o:Oper}{ρ:Operand->Value}(h:ZjK o.op=true)(w:World)(f:FuncId)(args:Array Value)(w':World):(execOp ρ o).run P w≠.ok (.enter f args) w':=by
 unfold execOp
 cases ho:o.op<;>rw [ho]at h<;>first
  |exact absurd h Bool.false_ne_true
  |exact Kl
  |exact Jy λ _ _ h=>nomatch h
  |exact λ h=>nomatch h
theorem QQ(w:World)(f:FuncId)(args:Array Value)(w':World):(runtimePanic .nilDeref:Sem Next).run P w≠.ok (.enter f args) w':=λ h=>nomatch h
theorem KY{o:Oper}{ρ:Operand->Value}(h:calm o.op=true)(w:World)(f:FuncId)(args:Array Value)(w':World):(execOp ρ o).run P w≠.ok (.enter f args) w':=by
 by_cases ht:ZjK o.op=true
 ·exact jx ht w f args w'
 unfold execOp;cases ho:o.op with
 |nilCheck x =>
  dsimp only;split
  ·exact QQ w f args w'
  ·exact QQ w f args w'
  ·exact QQ w f args w'
  ·split
   ·exact QQ w f args w'
   ·refine Jy λ p w=>Jy λ b w=>?_
    split
    ·exact Jy λ _ _ h=>nomatch h
    ·exact λ h=>nomatch h
   ·exact λ h=>nomatch h
  ·exact λ h=>nomatch h
 |call c =>
  obtain⟨callee,cargs,ct⟩:=c;cases callee with
  |builtin b =>
   cases b<;>rw [ho]at h<;>first
    |exact absurd h Bool.false_ne_true
    |exact Kl
  |_=>rw [ho]at h;exact absurd h Bool.false_ne_true
 |_ =>
  rw [ho]at h ht
  first
   |exact absurd h Bool.false_ne_true
   |exact absurd rfl ht
   |exact Kl
theorem ZcC{o:Oper}{v:Value}{a:Act}(ho:∀(w:World) f args w',(execOp a.eval o).run P w≠.ok (.enter f args) w')(h:YieldsIn P ops Zle o v a)(D:World->Prop):YieldsIn P ops D o v a:=by
 rcases h with ⟨hw,h⟩|⟨hw,h⟩
 ·refine .inl ⟨hw,λ w _=>?_⟩;have h1:=h w trivial;unfold Oper.quietAt at *
  cases hr:(execOp a.eval o).run P w with
  |ok n w' =>
   rw [hr]at h1;cases n<;>first|exact h1|exact(ho _ _ _ _ hr).elim
  |halt x w'=>rw [hr]at h1;exact h1
 ·exact .inr ⟨hw,h⟩
theorem ZfZ{o:Oper}{v:Value}{a:Act}(ho:∀(w:World) f args w',(execOp a.eval o).run P w≠.ok (.enter f args) w')(h:YieldsIn P ops C o v a):XO P ops C o v a:=by
 rcases h with ⟨hw,h⟩|⟨hw,h⟩
 ·refine .inl ⟨hw,λ w hc=>?_⟩;have h1:=h w hc;unfold Oper.quietAt at *
  cases hr:(execOp a.eval o).run P w with
  |ok n w' =>
   rw [hr]at h1;cases n<;>first|exact h1|exact(ho _ _ _ _ hr).elim
  |halt x w'=>rw [hr]at h1;exact h1
 ·exact .inr ⟨hw,h⟩
theorem Zct{loud gentle:List Nat}(hsel:∀(j:Nat)(o:Oper) cs b,ops[j]?=some o->o.op≠.select cs b){hard:Bool}{D:World->Prop}(hD:hard=true->D=C)(hA:hard=false->D=Zle){k:Array Bool->Bool}{K:Act->Prop}{f:Nat}
  (hk:∀ listed a,Closed md ops listed->k listed=true->K a->Uo P md ops loud gentle Q f C listed a):∀(l:List Nat)(listed:Array Bool)(a:Act),Closed md ops listed->okQ md ops loud gentle hard k l listed=true ->
   wpQuiet P ops D K (pick ops.toList l) a->Uo P md ops loud gentle Q (l.length+f) C listed a
 | [],listed,a,hcl,hB,h=>by rw [List.length_nil,Nat.zero_add];exact hk listed a hcl hB h
 |i::l,listed,a,hcl,hB,h=>by
  simp only [okQ,Bool.and_eq_true]at hB;obtain⟨⟨⟨⟨hr,hf⟩,hl⟩,hh⟩,hB'⟩:=hB;have hr:i∈Region.ready md ops listed:=by simpa using hr
  obtain⟨_,oi,hoi,_⟩:=mem_ready.1 hr;have hoi':ops.toList[i]?=some oi:=by simpa using hoi
  simp only [pick,hoi',List.singleton_append]at h;have hq:qOp P ops D i (wpQuiet P ops D K (pick ops.toList l)) a:=by unfold qOp;simp only [hoi];exact h
  obtain⟨v,hy,hK⟩:=yieldsIn_of_qOp hoi hq
  have ht:ZfQ P md ops loud gentle C listed i oi v a:=by
   cases hard with
   |true =>
    obtain rfl:=hD rfl;simp only [if_true,Bool.or_eq_true,Bool.and_eq_true,opB,hoi,Option.map_some,Option.getD_some]at hh;refine⟨hy,?_⟩;rcases hh with hh|⟨hh,hc⟩
    ·exact .inl (.inl λ j hj=>by simpa using List.all_eq_true.1 hh j hj)
    ·exact .inr ⟨ZfZ (KY hc) hy,λ j hj=>by simpa [or_assoc]using List.all_eq_true.1 hh j hj⟩
   |false =>
    obtain rfl:=hA rfl;have ha:∀ D:World->Prop,YieldsIn P ops D oi v a:=λ D=>ZcC (jx (by simpa [opB,hoi]using hh)) hy D
    exact⟨ha C,.inl (.inr ha)⟩
  rw [List.length_cons,show l.length+1+f=(l.length+f)+1 by omega];exact UD hoi (by simpa using hl) hsel _ C listed a hcl (Region.free_spec hoi hf) hr ht (Zct hsel hD hA hk l _ _ (hcl.set hr) hB' hK)
theorem ZiV{o:Oper}{a:Act}{w:World}{K:Act->World->Prop}{K':Act->World->Prop}(h:o.wp P a w K (Nx K')):o.wp P a w K NoQ:=by
 unfold Oper.wp at *
 generalize (execOp a.eval o).run P w=r at *
 cases r with
 |ok n w' =>
  cases n<;>simp only [Oper.upon]at h ⊢<;>first
   |exact h
   |exact Calls.mono h (λ e w'' he=>by
     cases e with
     |returned v=>exact he
     |panicked c=>exact he.elim
     |outgrown=>obtain⟨x,y,hxy⟩:=he;exact hxy.elim)
 |halt x w'=>cases x<;>simp only [Oper.upon]at h ⊢<;>exact h.elim
theorem Z8{K:Act->World->Prop}{o:Oper}{i:Nat}{a:Act}{w:World}{rest:List Oper}(hi:ops[i]?=some o)(h:wpList P ops (Nx K) (o::rest) a w):wpOp P ops NoQ i (wpList P ops (Nx K) rest) a w:=by
 unfold wpOp;simp only [hi];unfold wpList at h;split
 ·rename_i hw;rw [if_pos hw]at h;exact .inl (ZiV (h.resolve_right λ⟨_,_,_,h⟩=>h.elim))
 ·rename_i hw;rw [if_neg hw]at h;exact h
theorem Zlk{loud gentle:List Nat}{K:Act->World->Prop}{k:Array Bool->Bool}{f:Nat}(hk:∀ listed a w,Closed md ops listed->k listed=true->K a w->∃ D:World->Prop,D w/\Uo P md ops loud gentle Q f D listed a) :
  ∀(l:List Nat)(C:World->Prop)(listed:Array Bool)(a:Act),l≠[]->Closed md ops listed->okX md ops loud gentle k l listed=true->(∀ w,C w->wpList P ops (Nx K) (pick ops.toList l) a w)->Uo P md ops loud gentle Q (l.length+f) C listed a:=by
 intro l
 induction l with
 |nil=>intro _ _ _ h;exact absurd rfl h
 |cons i l ih =>
  intro C listed a _ hcl hB h;simp only [okX,Bool.and_eq_true,decide_eq_true_eq]at hB;obtain⟨⟨⟨hr,hl⟩,hng⟩,hB'⟩:=hB;have hng:i ∉ gentle:=by simpa using hng
  have hri:i∈Region.ready md ops listed:=by rw [hr];simp
  obtain⟨_,oi,hoi,_⟩:=mem_ready.1 hri;have hoi':ops.toList[i]?=some oi:=by simpa using hoi
  rw [List.length_cons,show l.length+1+f=(l.length+f)+1 by omega];refine⟨by rw [hr];simp,λ j hj=>?_⟩;obtain rfl:j=i:=by rw [hr]at hj;simpa using hj
  rw [if_pos (by simpa using hl)];intro w hw;have h1:=h w hw;simp only [pick,hoi',List.singleton_append]at h1;refine wpOp_mono (λ a' w' h2=>?_) (Z8 hoi h1);cases l with
  |nil=>rw [List.length_nil,Nat.zero_add];obtain⟨D,hD,h3⟩:=hk _ a' w' (hcl.set hri) hB' h2;exact⟨D,hD,λ h=>absurd h hng,h3⟩
  |cons i' l' =>
   exact⟨(·=w'),rfl,λ h=>absurd h hng,ih _ _ a' (by simp) (hcl.set hri) hB' λ w'' hw''=>by rw [hw''];exact h2⟩
def Zk.size:Zk->Nat
 | .d=>0
 | .q l n | .f l n | .x l n=>l.length+n.size
 | .c _ n | .g _ n | .y _ _ n _ | .z _ _ n _=>n.size+1
def Zk.fits:Zk->Bool
 | .d=>true
 | .q _ n | .f _ n | .c _ n | .g _ n=>n.fits
 | .x l n=>!l.isEmpty&&n.fits
 | .y _ _ n m | .z _ _ n m=>n.fits&&m.fits&&decide (n.size=m.size)
theorem YY(w:World):YL w w:=⟨⟨w.drawn,#[]⟩,by simp [gr,grow,redrawn]⟩
theorem QJ(w:World):GC (YL w):=λ _ _ ⟨p,hp⟩ ⟨p',hp'⟩=>⟨p.seq p',by rw [hp',hp,ZW]⟩
theorem Yr{loud gentle:List Nat}(hsel:∀(j:Nat)(o:Oper) cs b,ops[j]?=some o->o.op≠.select cs b):∀(t:Zk)(C:World->Prop)(listed:Array Bool)(a:Act),GC C->t.fits=true->Closed md ops listed->t.ok md ops loud gentle listed=true->t.run P ops.toList Q C a ->
  Uo P md ops loud gentle Q t.size C listed a
 | .d,C,listed,a,_,_,_,hB,h=>⟨by simpa [Zk.ok]using hB,h⟩
 | .q l n,C,listed,a,hC,hf,hcl,hB,h=>Zct (hard:=true) hsel (λ _=>rfl) (λ h=>by cases h) (λ listed' a' hc hB' h'=>Yr hsel n C listed' a' hC hf hc hB' h') l listed a hcl hB (by simpa [Zk.run]using h)
 | .f l n,C,listed,a,hC,hf,hcl,hB,h=>Zct (hard:=false) hsel (λ h=>by cases h) (λ _=>rfl) (λ listed' a' hc hB' h'=>Yr hsel n C listed' a' hC hf hc hB' h') l listed a hcl hB (by simpa [Zk.run]using h)
 | .x l n,C,listed,a,hC,hf,hcl,hB,h=>by
  simp only [Zk.fits,Bool.and_eq_true,Bool.not_eq_true',List.isEmpty_eq_false_iff]at hf;exact Zlk (λ listed' a' w' hc hB' h'=>⟨YL w',YY w',Yr hsel n (YL w') listed' a' (QJ _) hf.2 hc hB' h'⟩) l C listed a hf.1 hcl hB (by simpa [Zk.run]using h)
 | .c i n,C,listed,a,hC,hf,hcl,hB,h=>by
  simp only [Zk.ok,Bool.and_eq_true]at hB;obtain⟨⟨⟨⟨⟨⟨hr,hfr⟩,hl⟩,hw⟩,_⟩,hgd⟩,hn⟩:=hB;have hr:i∈Region.ready md ops listed:=by simpa using hr
  obtain⟨_,oi,hoi,_⟩:=mem_ready.1 hr;have hoi':ops.toList[i]?=some oi:=by simpa using hoi
  simp only [Zk.run,hoi']at h;obtain⟨v,hv,h⟩:=h;have hg:oi.guard=none:=by simpa [hoi]using hgd
  have hwn:Region.wanted oi (yielded ops a.tmps)=true:=by simp [Region.wanted,hg]
  have hyG:XO P ops C oi v a:=.inl ⟨hwn,hv⟩;exact UD hoi (by simpa using hl) hsel _ C listed a hcl (Region.free_spec hoi hfr) hr ⟨hyG.into (λ _ h=>h) hC,.inr ⟨hyG,λ j hj=>by simpa [or_assoc]using List.all_eq_true.1 hw j hj⟩⟩ (Yr hsel n C _ _ hC hf (hcl.set hr) hn h)
 | .g i n,C,listed,a,hC,hf,hcl,hB,h=>by
  simp only [Zk.ok,Bool.and_eq_true,decide_eq_true_eq]at hB;obtain⟨⟨hr,hl⟩,hn⟩:=hB;have hri:i∈Region.ready md ops listed:=by rw [hr];simp
  obtain⟨_,oi,hoi,_⟩:=mem_ready.1 hri;have hoi':ops.toList[i]?=some oi:=by simpa using hoi
  refine⟨by rw [hr];simp,λ j hj=>?_⟩;obtain rfl:j=i:=by rw [hr]at hj;simpa using hj
  rw [if_pos (by simpa using hl)];intro w hw;have h1:=h w hw;simp only [pick,hoi',List.append_nil]at h1;refine wpOp_mono (λ a' w' hh=>?_) (Z8 hoi (by simpa using h1));obtain⟨h2,h3⟩:C w'/\n.run P ops.toList Q (YL w') a':=hh;exact⟨YL w',YY w',λ _=>⟨QJ _,λ w'' h=>hC _ _ h2 h⟩,Yr hsel n (YL w') _ a' (QJ _) hf (hcl.set hri) hn h3⟩
 | .y i j n m,C,listed,a,hC,hf,hcl,hB,h=>by
  simp only [Zk.fits,Bool.and_eq_true,decide_eq_true_eq]at hf;simp only [Zk.ok,Bool.and_eq_true,Bool.not_eq_true',List.isEmpty_eq_false_iff]at hB;obtain⟨⟨⟨⟨⟨⟨hr,hne⟩,hi⟩,hj⟩,hig⟩,hn⟩,hm⟩:=hB;have hig:i ∉ gentle:=by simpa using hig
  refine⟨hne,λ k hk=>?_⟩;obtain⟨_,ok,hok,_⟩:=mem_ready.1 hk;have hok':ops.toList[k]?=some ok:=by simpa using hok
  have hkij:k=i\/k=j:=by simpa using List.all_eq_true.1 hr k hk
  rcases hkij with rfl|rfl
  ·rw [if_pos (by simpa using hi)];intro w hw;have h1:=h.1 w hw;simp only [pick,hok',List.append_nil]at h1;exact wpOp_mono (λ a' w' h2=>⟨YL w',YY w',λ h=>absurd h hig,Yr hsel n (YL w') _ a' (QJ _) hf.1.1 (hcl.set hk) hn h2⟩) (Z8 hok (by simpa using h1))
  ·rw [if_pos (by simpa using hj)];intro w hw;have h1:=h.2 w hw;simp only [pick,hok',List.append_nil]at h1;refine wpOp_mono (λ a' w' hh=>?_) (Z8 hok (by simpa using h1));obtain⟨h2,h3⟩:C w'/\m.run P ops.toList Q (YL w') a':=hh;refine⟨YL w',YY w',λ _=>⟨QJ _,λ w'' h=>hC _ _ h2 h⟩,?_⟩;have:=Yr hsel m (YL w') _ a' (QJ _) hf.1.2 (hcl.set hk) hm h3
   rwa [<-hf.2]at this
 | .z i j n m,C,listed,a,hC,hf,hcl,hB,h=>by
  simp only [Zk.fits,Bool.and_eq_true,decide_eq_true_eq]at hf;simp only [Zk.ok,Bool.and_eq_true,Bool.not_eq_true',List.isEmpty_eq_false_iff]at hB;obtain⟨⟨⟨⟨⟨hr,hne⟩,hi⟩,hj⟩,hn⟩,hm⟩:=hB;refine⟨hne,λ k hk=>?_⟩;obtain⟨_,ok,hok,_⟩:=mem_ready.1 hk;have hok':ops.toList[k]?=some ok:=by simpa using hok
  have hkij:k=i\/k=j:=by simpa using List.all_eq_true.1 hr k hk
  rcases hkij with rfl|rfl
  ·rw [if_pos (by simpa using hi)];intro w hw;have h1:=h.1 w hw;simp only [pick,hok',List.append_nil]at h1;refine wpOp_mono (λ a' w' hh=>?_) (Z8 hok (by simpa using h1));obtain⟨h2,h3⟩:C w'/\n.run P ops.toList Q (YL w') a':=hh;exact⟨YL w',YY w',λ _=>⟨QJ _,λ w'' h=>hC _ _ h2 h⟩,Yr hsel n (YL w') _ a' (QJ _) hf.1.1 (hcl.set hk) hn h3⟩
  ·rw [if_pos (by simpa using hj)];intro w hw;have h1:=h.2 w hw;simp only [pick,hok',List.append_nil]at h1;refine wpOp_mono (λ a' w' hh=>?_) (Z8 hok (by simpa using h1));obtain⟨h2,h3⟩:C w'/\m.run P ops.toList Q (YL w') a':=hh;refine⟨YL w',YY w',λ _=>⟨QJ _,λ w'' h=>hC _ _ h2 h⟩,?_⟩;have:=Yr hsel m (YL w') _ a' (QJ _) hf.1.2 (hcl.set hk) hm h3
   rwa [<-hf.2]at this
theorem Kv{id:Nat}{a:Act}{w:World}{l:List Oper}(C:World->Prop)(t:Zk)(hC:GC C)(h0:C w.drew)(hm:P.follows .mixedOrders=true)(hB:(Region.noSelect l.toArray&&t.fits&&decide (t.size=l.length)&&t.ok .any l.toArray t.louds t.gentles (Array.replicate l.length false))=true)
  (h:t.run P l Q C a):(Code.region id l.toArray true).wp P Q a w:=by
 simp only [Bool.and_eq_true,decide_eq_true_eq]at hB;obtain⟨⟨⟨hs,hf⟩,hz⟩,hk⟩:=hB;refine wp_region_any hm (JK (loud:=t.louds) (gentle:=t.gentles) _ C _ _ _ h0 ?_);have:=Yr (md:=.any) (Q:=Q) (Region.noSelect_spec hs) t C (Array.replicate l.length false) a hC hf (λ j oj _ hl=>by rw [getD_replicate_false]at hl;cases hl) hk (by simpa using h);rw [hz]at this;simpa using this
theorem Zgb{id:Nat}{a:Act}{w:World}{l:List Oper}(t:Zk)(hm:P.follows .mixedOrders=true)(hB:(Region.noSelect l.toArray&&t.fits&&decide (t.size=l.length)&&t.ok .any l.toArray t.louds t.gentles (Array.replicate l.length false))=true)
  (h:t.run P l Q (YL w) a):(Code.region id l.toArray true).wp P Q a w :=
 Kv (YL w) t (QJ w) ⟨⟨w.drawn+1,#[]⟩,by simp only [gr,grow_empty];rfl⟩ hm hB h
theorem jQ{id:Nat}{a:Act}{w:World}{g:Gr}{l:List Oper}(t:Zk)(hm:P.follows .mixedOrders=true)(hB:(Region.noSelect l.toArray&&t.fits&&decide (t.size=l.length)&&t.ok .any l.toArray t.louds t.gentles (Array.replicate l.length false))=true)
  (h:t.run P l Q (YL w) a):(Code.region id l.toArray true).wp P Q a (gr w g) :=
 Kv (YL w) t (QJ w) ⟨g.drawn,rfl⟩ hm hB h
end
theorem gZ{α:Type}{a:α}{l:List α}:(a::l)[0]?=some a:=rfl
theorem gS{α:Type}{a:α}{l:List α}{i:Nat}:(a::l)[i+1]?=l[i]?:=rfl
theorem gA{α:Type}{a:α}{l m:List α}:a::l++m=a::(l++m):=rfl
theorem gN{α:Type}{l:List α}:[]++l=l:=rfl
section
variable{P:Program}{Q:Exit->Act->World->Prop}{id:Nat}{a:Act}{w:World}{g:Gr}{l:List Oper}
class GrO(w:World)(w':outParam World):Prop where
 e:∃ g:Gr,w=gr w' g
instance ZrK(w:World)(g:Gr):GrO (gr w g) w:=⟨g,rfl⟩
instance(priority:=low) Zrm(w:World):GrO w w:=⟨_,ZaT w⟩
theorem plZ{w':World}[k:GrO w w'](t:Zk)(h:t.run P l Q (YL w') a)(hm:P.follows .mixedOrders=true:=by kernel_rfl)(hB:(Region.noSelect l.toArray&&t.fits&&decide (t.size=l.length)&&t.ok .any l.toArray t.louds t.gentles (Array.replicate l.length false))=true:=by kernel_rfl):(Code.region id l.toArray true).wp P Q a w:=by
 obtain⟨g,rfl⟩:=k.e;exact jQ t hm hB h
end
abbrev Hl:=Nat->Option Obj
class Has(W:World)(h:semiOutParam Hl):Prop where
 get:∀ n o,h n=some o->W.heap[n]?=some o
class Out(n:Nat)(h:Hl):Prop where
 none:h n=none
theorem Has.lt{W:World}{h:Hl}(i:Has W h){n:Nat}{o:Obj}(e:h n=some o):n<W.heap.size:=(Array.getElem?_eq_some_iff.1 (i.get n o e)).1
theorem Has.out{W:World}{h:Hl}(i:Has W h){n:Nat}(hn:W.heap.size<=n):h n=none:=by
 cases e:h n with
 |none=>rfl
 |some o=>have:=i.lt e;omega
theorem Has.cell{W:World}{h:Hl}[i:Has W h]{n k:Nat}{cs:Array Value}{t:TypeId}{f:Nat × Nat}(e:h n=some (.cells cs t f)):W.cell? ⟨n,k,none⟩=cs[k]?:=by
 simp [World.cell?,i.get _ _ e]
theorem Has.frozen{W:World}{h:Hl}[i:Has W h]{n k:Nat}{cs:Array Value}{t:TypeId}(e:h n=some (.cells cs t (0,0))):W.frozen? ⟨n,k,none⟩=false:=by
 simp [World.frozen?,i.get _ _ e]
theorem Has.old{W:World}{h:Hl}[i:Has W h]{n:Nat}{o:Obj}(e:h n=some o):Yc n W:=⟨i.lt e⟩
def md(W:World)(h:Hl)(c:World):World :=
 { W with drawn:=c.drawn,heap:=Array.ofFn (n:=max W.heap.size c.heap.size) λ i=>if i.val<W.heap.size/\h i.val=none then W.heap.getD i.val default else c.heap.getD i.val default }
theorem zC(W:World)(h:Hl)(c:World):(md W h c).heap.size=max W.heap.size c.heap.size:=by simp [md]
theorem VE(W:World)(h:Hl)(c:World){n:Nat}(hn:n<W.heap.size)(e:h n=none):(md W h c).heap[n]?=W.heap[n]?:=by
 simp only [md,Array.getElem?_ofFn];rw [dif_pos (by omega),if_pos ⟨hn,e⟩,Array.getElem?_eq_getElem hn];simp [hn]
theorem Zkg(W:World)(h:Hl)(c:World){n:Nat}{o:Obj}(hc:c.heap[n]?=some o)(e:h n≠none\/W.heap.size<=n):(md W h c).heap[n]?=some o:=by
 obtain⟨hn,hv⟩:=Array.getElem?_eq_some_iff.1 hc;simp only [md,Array.getElem?_ofFn];rw [dif_pos (by omega),if_neg (by rintro⟨h1,h2⟩;rcases e with e|e;exact e h2;omega)];simp [hn,hv]
structure Xz(h:Hl)(W W':World):Prop where
 os:W'.os=W.os
 tape:W'.tape=W.tape
 output:W'.output=W.output
 size:W.heap.size<=W'.heap.size
 block:∀ k,k<W.heap.size->h k=none->W'.heap[k]?=W.heap[k]?
theorem Xz.eq{h:Hl}{W W':World}(m:Xz h W W'):W'=md W h W':=by
 have e:W'.heap=(md W h W').heap:=by
  apply Array.ext_getElem?;intro n
  by_cases h1:n<W.heap.size/\h n=none
  ·rw [VE W h W' h1.1 h1.2,m.block n h1.1 h1.2]
  ·by_cases h2:n<W'.heap.size
   ·rw [Zkg W h W' (Array.getElem?_eq_getElem h2) (by
     by_cases h3:h n=none
     ·exact .inr (Nat.le_of_not_lt λ h4=>h1 ⟨h4,h3⟩)
     ·exact .inl h3),Array.getElem?_eq_getElem h2]
   ·rw [Array.getElem?_eq_none (by omega),Array.getElem?_eq_none (by rw [zC];have:=m.size;omega)]
 have h1:=m.os;have h2:=m.tape;have h3:=m.output;cases W';unfold md at e ⊢;dsimp only at e h1 h2 h3;rw [<-e,h1,h2,h3]
theorem Xz.refl(h:Hl)(W:World):Xz h W W:=⟨rfl,rfl,rfl,Nat.le_refl _,λ _ _ _=>rfl⟩
theorem Xz.of_below{h:Hl}{W W':World}(b:Below W.heap.size W W'):Xz h W W':=⟨b.os,b.tape,b.output,b.size,λ k hk _=>b.block k hk⟩
theorem Xz.trans{h h':Hl}{a b c:World}(m:Xz h a b)(m':Xz h' b c)(hh:∀ k,k<a.heap.size->h k=none->h' k=none):Xz h a c :=
 ⟨m'.os.trans m.os,m'.tape.trans m.tape,m'.output.trans m.output,Nat.le_trans m.size m'.size,λ k hk e=>(m'.block k (Nat.lt_of_lt_of_le hk m.size) (hh k hk e)).trans (m.block k hk e)⟩
theorem Xz.gr{h:Hl}{a W:World}(m:Xz h a W)(g:Gr):Xz h a (gr W g):=m.trans (Xz.of_below (h:=h) (Yb W g)) λ _ _ e=>e
theorem Xz.alloc{h:Hl}{a W:World}(m:Xz h a W)(o:Obj):Xz h a (W.alloc o):=m.trans (Xz.of_below (h:=h) (Z5 (Below.refl _ _) o)) λ _ _ e=>e
theorem Xz.drew{h:Hl}{a W:World}(m:Xz h a W):Xz h a W.drew:=m.trans (Xz.of_below (h:=h) (Below.refl _ _).drew) λ _ _ e=>e
theorem Zh7(W:World)(h:Hl)(c:World):Xz h W (md W h c):=⟨rfl,rfl,rfl,by rw [zC];omega,λ _ hk e=>VE W h c hk e⟩
theorem Xz.setCell{h:Hl}{a W:World}(m:Xz h a W){p:Addr}(hp:a.heap.size<=p.block\/h p.block≠none)(v:Value):Xz h a (W.setCell p v) :=
 ⟨m.os,m.tape,m.output,by rw [World.size_setCell];exact m.size,λ k hk e=>by
  rw [Below.heap_setCell _ _ _ _ (λ e'=>by rcases hp with hp|hp;omega;exact hp (e'▸e))]
  exact m.block k hk e⟩
class jE(c:World)(h:Hl)(k:outParam Nat)(h':outParam Hl):Prop where
 get:∀ n o,h' n=some o->c.heap[n]?=some o/\(h n≠none\/k<=n)
class Ext(h':Hl)(h:outParam Hl)(k:outParam Nat):Prop where
 out:∀ n,n<k->h n=none->h' n=none
theorem jE.ext{c:World}{h:Hl}{k:Nat}{h':Hl}(i:jE c h k h'):Ext h' h k:=⟨λ n hn e=>by
 cases e':h' n with
 |none=>rfl
 |some o=>rcases(i.get n o e').2 with h1|h1;exact absurd e h1;omega⟩
section
variable(W:World)(h:Hl)(c:World)(n i:Nat)
@[go_sem] theorem Zj8 [k:Yc n W] [o:Out n h]:(md W h c).cell? ⟨n,i,none⟩=W.cell? ⟨n,i,none⟩:=World.cell?_of_block (VE W h c k.h o.none)
@[go_sem] theorem ZlU [k:Yc n W] [o:Out n h]:(md W h c).frozen? ⟨n,i,none⟩=W.frozen? ⟨n,i,none⟩:=World.frozen?_of_block (VE W h c k.h o.none)
@[go_sem] theorem ZkS (v:Value) [k:Yc n W] [o:Out n h]:(md W h c).setCell ⟨n,i,none⟩ v=md (W.setCell ⟨n,i,none⟩ v) h c:=by
 have hk:=k.h;simp only [md,World.setCell]
 congr 1
 apply Array.ext_getElem?;intro j;simp only [Array.getElem?_modify,Array.getElem?_ofFn,Array.size_modify]
 by_cases hj:n=j
 ·subst hj;rw [if_pos rfl,dif_pos (by omega),if_pos ⟨hk,o.none⟩,dif_pos (by omega),if_pos ⟨hk,o.none⟩];simp [hk,Array.getElem_modify]
 ·rw [if_neg hj];split
  ·split<;>simp [Array.getElem?_modify,hj]
  ·rfl
@[go_sem] theorem Zny:(md W h c).drew=md W h c.drew:=rfl
@[go_sem] theorem Znx:md W.drew h c=md W h c:=rfl
end
instance Zqt(W:World)(h:Hl)(c:World)(n:Nat)[k:Yc n W]:Yc n (md W h c):=⟨by have:=k.h;rw [zC];omega⟩
instance Zox(W:World)(h:Hl)(c:World)(n:Nat)[k:JL n W]:JL n (md W h c):=⟨by have:=k.h;rw [zC];omega⟩
instance Zob(X W:World)(h:Hl)(c:World)[k:ZX X W.heap.size]:ZX (md X h c) (md W h c).heap.size:=⟨by rw [zC,zC,k.h]⟩
instance ZoL(X W:World)(g:Gr)[k:ZX X W.heap.size]:ZX (gr X g) (gr W g).heap.size:=⟨by rw [Yl,Yl,k.h]⟩
instance ZmH(W:World)(o:Obj)(h:Hl)[i:Has W h]:Has (W.alloc o) h:=⟨λ n ob e=>by rw [Below.heap_alloc _ _ _ (i.lt e)];exact i.get n ob e⟩
instance Zp0(W:World)(g:Gr)(h:Hl)[i:Has W h]:Has (gr W g) h:=⟨λ n ob e=>by rw [XQ _ _ (i.lt e)];exact i.get n ob e⟩
instance ZnE(W:World)(h:Hl)[i:Has W h]:Has W.drew h:=⟨i.get⟩
instance ZqJ(X:World)(h:Hl)(c:World)(h':Hl)(k:Nat)[i:jE c h k h'][z:ZX X k]:Has (md X h c) h':=⟨λ n o e=>by
 obtain⟨h1,h2⟩:=i.get n o e
 exact Zkg X h c h1 (by rw [z.h];exact h2)⟩
instance(priority:=low) Zpw(W:World)(h:Hl)[i:Has W h]:Out W.heap.size h:=⟨i.out (Nat.le_refl _)⟩
def Zg(W:World)(h:Hl)(P:Hl->Prop)(w':World):Prop:=Xz h W w'/\∃ h',Has w' h'/\(∀ n,n<W.heap.size->h n=none->h' n=none)/\P h'
theorem Zg.mk{W:World}{h:Hl}{P:Hl->Prop}{w':World}(h':Hl)(m:Xz h W w')(i:Has w' h')(x:∀ n,n<W.heap.size->h n=none->h' n=none)(p:P h'):Zg W h P w':=⟨m,h',i,x,p⟩
theorem Zg.get{W:World}{h:Hl}{P:Hl->Prop}{w':World}(t:Zg W h P w'):∃ c h',w'=md W h c/\jE c h W.heap.size h'/\Ext h' h W.heap.size/\P h':=by
 obtain⟨m,h',i,x,p⟩:=t
 have ia:jE w' h W.heap.size h':=⟨λ n o e=>⟨i.get n o e,by
  by_cases hn:n<W.heap.size
  ·left;intro e2;have:=x n hn e2;rw [this]at e;cases e
  ·right;omega⟩⟩
 exact⟨w',h',m.eq,ia,ia.ext,p⟩
class Fn(f:FuncId)(args:Array Value)(W:World)(v:outParam Value):Prop where
 h:Calls Tryz.prog f args W (ZM v W)
theorem Fn.go{f:FuncId}{args:Array Value}{W:World}{v:Value}{R:Ending->World->Prop}[i:Fn f args W v](h:∀ g,R (.returned v) (gr W g)):Calls Tryz.prog f args W R :=
 i.h.mono λ _ _ ⟨he,hb⟩=>by obtain⟨g,rfl⟩:=Zf hb;rw [he];exact h g
theorem Fn.cls{f:FuncId}{args:Array Value}{W:World}{v:Value}{g:Gr}[i:Fn f args (gr W g) v]:Calls Tryz.prog f args (gr W g) λ e w''=>e=.returned v/\∃ p:Gr,w''=gr W p :=
 i.h.mono λ _ _ ⟨he,hb⟩=>⟨he,by obtain⟨g',h'⟩:=Zf hb;exact⟨g.seq g',by rw [h',ZW]⟩⟩
theorem Fn.own{f:FuncId}{args:Array Value}{W:World}{v:Value}[i:Fn f args W v]:Calls Tryz.prog f args W λ e w''=>e=.returned v/\∃ p:Gr,w''=gr W p :=
 i.h.mono λ _ _ ⟨he,hb⟩=>⟨he,Zf hb⟩
theorem Fn.of{f:FuncId}{args:Array Value}{v:Value}(h:KI Tryz.prog f args v)(W:World):Fn f args W v:=⟨h W⟩
class yF(f:FuncId)(args:Array Value)(W:World)(v:outParam Value)(W1:outParam World):Prop where
 h:Calls Tryz.prog f args W λ e w'=>e=.returned v/\∃ g:Gr,w'=gr W1 g
theorem yF.go{f:FuncId}{args:Array Value}{W W1:World}{v:Value}{R:Ending->World->Prop}[i:yF f args W v W1](h:∀ g,R (.returned v) (gr W1 g)):Calls Tryz.prog f args W R :=
 i.h.mono λ _ _ ⟨he,g,hw⟩=>by rw [he,hw];exact h g
class FnX(f:FuncId)(args:Array Value)(W:World)(v:outParam Value)(W1:outParam World):Prop where
 h:Calls Tryz.prog f args W λ e w'=>e=.returned v/\w'=W1
theorem FnX.go{f:FuncId}{args:Array Value}{W W1:World}{v:Value}{R:Ending->World->Prop}[i:FnX f args W v W1](h:R (.returned v) W1):Calls Tryz.prog f args W R :=
 i.h.mono λ _ _ ⟨he,hw⟩=>by rw [he,hw];exact h
theorem Gr.seq_assoc(a b c:Gr):(a.seq b).seq c=a.seq (b.seq c):=by simp [Gr.seq]
theorem Fn.cls2{f:FuncId}{args:Array Value}{W:World}{v:Value}{g0 g:Gr}[i:Fn f args (gr W (g0.seq g)) v]:Calls Tryz.prog f args (gr W (g0.seq g)) λ e w''=>e=.returned v/\∃ p:Gr,w''=gr W (g0.seq p) :=
 i.h.mono λ _ _ ⟨he,hb⟩=>⟨he,by obtain⟨g',h'⟩:=Zf hb;exact⟨g.seq g',by rw [h',ZW,Gr.seq_assoc]⟩⟩
theorem Kj{w:World}{b k:Nat}{v:Value}(h:w.cell? ⟨b,k,none⟩=some v):w.setCell ⟨b,k,none⟩ v=w:=by
 have e:w.heap.modify b (fun
   | .cells c elem frozen=>.cells (c.setIfInBounds k v) elem frozen
   |o=>o)=w.heap:=by
  apply Array.ext_getElem?;intro n;rw [Array.getElem?_modify]
  by_cases hn:b=n
  ·subst hn;rw [if_pos rfl];unfold World.cell? at h;cases ho:w.heap[b]? with
   |none=>rfl
   |some o =>
    simp only [ho]at h;cases o<;>simp at h
    rename_i c t f;simp only [Option.map_some,Option.some.injEq,Obj.cells.injEq,and_true];apply Array.ext_getElem?;intro j;rw [Array.getElem?_setIfInBounds]
    by_cases hj:k=j
    ·subst hj;rw [if_pos rfl,if_pos (Array.getElem?_eq_some_iff.1 h).1,h]
    ·rw [if_neg hj]
  ·rw [if_neg hn]
 exact congrArg (λ hp=>({ w with heap:=hp }:World)) e
theorem qZ{p:Prop}(h:p:=by first|(with_reducible exact Fn.cls)|(with_reducible exact Fn.cls2)|(exact λ _=>rfl)):p:=h
abbrev nZ:=@wpQuiet_nil
def jg:ByteArray:=⟨#[]⟩
@[go_sem] theorem UQ:jg.size=0:=rfl
def Zx(n:Nat):ByteArray:=⟨(Lib.repeatL [0] n).toArray⟩
@[go_sem] theorem Zr (n:Nat):(Zx n).size=n:=by rw [Zx,<- Zi];simp [Lib.repeatL_length]
def Ux(n:Int):ByteArray:=if 0<=n/\n<=4294967295 then Qp n 4 else jg
def XL(n:Int):ByteArray:=if 0<=n/\n<=4611686018427387903 then Qp n 8 else jg
instance Zqa(X:Int)(W:World):Fn 220 #[.int .u64 X,.int .i64 4] W (.string (Qp X 4)):=Fn.of (qh X 4 (by omega)) W
instance Zql(X:Int)(W:World):Fn 220 #[.int .u64 X,.int .i64 8] W (.string (Qp X 8)):=Fn.of (qh X 8 (by omega)) W
set_option maxRecDepth 512 in
instance ZoJ(n:Int)(W:World):Fn 175 #[.int .i64 n] W (.string (Ux n)):=by
 refine⟨?_⟩
 by_cases h0:0<=n<;>by_cases h1:n<=4294967295
 all_goals try(exfalso;omega)
 all_goals
  go_in
  go_wp2_with(with_reducible refine Fn.go λ g=>?_);go_ret;exact ZM.mk (by unfold Ux;first|(rw [if_pos (by omega)];rfl)|(rw [if_neg (by omega)];rfl)) grown
set_option maxRecDepth 512 in
instance Zn8(n:Int)(W:World):Fn 173 #[.int .u64 n] W (.string (Qp n 8)):=by
 refine⟨?_⟩
 go_in
 go_wp2_with(with_reducible refine Fn.go λ g=>?_);go_ret;exact ZM.mk rfl grown
set_option maxRecDepth 512 in
instance ZoF(n:Int)(W:World):Fn 120 #[.int .i64 n] W (.string (XL n)):=by
 refine⟨?_⟩
 by_cases h0:0<=n<;>by_cases h1:n<=4611686018427387903
 all_goals try(exfalso;omega)
 all_goals
  go_in
  go_wp2_with(with_reducible refine Fn.go λ g=>?_);go_ret;exact ZM.mk (by unfold XL;first|(rw [if_pos (by omega)];rfl)|(rw [if_neg (by omega)];rfl)) grown
def QG(s:ByteArray)(m:Nat):ByteArray:=s++Zx ((m-s.size%m)%m)
theorem yM(n:Nat)(hn:n<=65536)(z:Int)(hz:z=n)(W:World):Fn 138 #[.string ⟨#[0]⟩,.int .i64 z] W (.string (Zx n)) :=
 ⟨by subst hz;exact(Tryz.strings_Repeat ⟨#[0]⟩ n W (by omega) (by show 1*n<=_;omega)).mono λ e w' h=>h⟩
set_option maxRecDepth 512 in
theorem j6(s:ByteArray)(m:Nat)(h0:1<=m)(h1:m<=4096)(hs:s.size<=65536)(W:World):Fn 119 #[.string s,.int .i64 (m:Int)] W (.string (QG s m)):=by
 refine⟨?_⟩;have hm:s.size%m<m:=Nat.mod_lt _ (by omega);have hn:(m-s.size%m)%m<m:=Nat.mod_lt _ (by omega);obtain⟨n,hd⟩:∃ n,(m-s.size%m)%m=n:=⟨_,rfl⟩
 have e:=Lib.hid (show QG s m=s++Zx n by rw [<-hd];rfl)
 have hmod:Hid (-((s.size:Int)%(m:Int))%(m:Int)=n):=by
  rw [<-hd];obtain⟨c,hc⟩:∃ c,s.size%m=c:=⟨_,rfl⟩
  have hi:(s.size:Int)%(m:Int)=c:=by rw [<-hc];rfl
  rw [hc]at hm ⊢;show -((s.size:Int)%(m:Int))%(m:Int)=_;rw [hi,<- Int.add_emod_right,show -(c:Int)+m=((m-c:Nat):Int) by omega];rfl
 have c:∀(W:World)(z:Int),z=n->Fn 138 #[.string ⟨#[0]⟩,.int .i64 z] W (.string (Zx n)):=λ W z hz=>yM n (by omega) z hz W
 have C:=Lib.hid c;rw [hd]at hn;have hz:(Zx n).size<=65536:=by rw [Zr];omega
 clear hd c
 go_in
 go_wp2_with(go_at_call 138;refine @Fn.go _ _ _ _ _ (C.out _ _ ?h) λ g=>?_;case h=>exact hmod.out);go_ret;exact ZM.mk (by rw [e.out];rfl) grown
class yc(b:Nat)(s:outParam ByteArray)(i:outParam Int)(w:World):Prop where
 old:Yc b w
 c0:w.cell? ⟨b,0,none⟩=some (.string s)
 c1:w.cell? ⟨b,1,none⟩=some (.int .i64 i)
 fr:w.frozen? ⟨b,1,none⟩=false
instance Zn7(s:ByteArray)(w:World):FnX 80 #[.string s] w (.pointer (some ⟨w.heap.size,0,none⟩)) (w.alloc (.cells #[.string s,.int .i64 0] 239)):=⟨ZcQ s w⟩
class Bd(s:ByteArray)(i:Int):Prop where
 lo:0<=i
 hi:i<=s.size
 sz:s.size<=65536
instance Zoi(w:World)(b:Nat)(s:ByteArray)(i:Int)(t:TypeId)[k:ZX w b]:yc b s i (w.alloc (.cells #[.string s,.int .i64 i] t)) :=
 ⟨ii,by rw [Qc];rfl,by rw [Qc];rfl,Zey ..⟩
instance ZpO(b:Nat)(s:ByteArray)(i:Int)(w:World)(g:Gr)[h:yc b s i w]:yc b s i (gr w g):=by
 haveI:=h.old;exact⟨ii,(Z7 ..).trans h.c0,(Z7 ..).trans h.c1,(UN ..).trans h.fr⟩
instance Zl3(b:Nat)(s:ByteArray)(i:Int)(w:World)(o:Obj)[h:yc b s i w]:yc b s i (w.alloc o):=by
 haveI:=h.old;exact⟨ii,(QW ..).trans h.c0,(QW ..).trans h.c1,(Zaw ..).trans h.fr⟩
instance Zo9(b:Nat)(s:ByteArray)(i j:Int)(w:World)[h:yc b s i w]:yc b s j (w.setCell ⟨b,1,none⟩ (.int .i64 j)):=by
 haveI:=h.old;have c1:=h.c1;exact⟨ii,by simp [go_sem,h.c0],by simp [go_sem,c1],by simp [go_sem,h.fr]⟩
set_option maxRecDepth 512 in
instance ZnS(b:Nat)(s:ByteArray)(i:Int)(w:World)[h:yc b s i w][k:Bd s i]:Fn 200 #[.pointer (some ⟨b,0,none⟩)] w (.int .i64 ((s.size:Int)-i)):=by
 refine⟨?_⟩;haveI:=h.old;have h0:=h.c0;have h1:=h.c1;have k0:=k.lo;have k1:=k.hi;have k2:=k.sz
 go_in
 go_wp2_with fail;refine plZ (.q [0,1,2,3,4,5,6,7,8,9,10] .d) ?_;simp only [Zk.run,pick,gZ,gS,gA,gN]
 (repeat go_big_quiet_step (exact qZ));refine nZ ?_;rintro _ ⟨g,rfl⟩
 go_wp2_with fail;go_ret;exact ZM.mk rfl grown
def Xi(s:ByteArray)(i n:Int):Int:=if i+n<=s.size then(num s i.toNat n.toNat:Int)else 0
def Jj(s:ByteArray)(i n:Int):Int:=if i+n<=s.size then 0 else 2
def X8(s:ByteArray)(i n:Int):Int:=if i+n<=s.size then i+n else i
theorem kg(s:ByteArray)(i n:Int)(h:0<=i)(hn:0<=n):0<=Xi s i n/\Xi s i n<256^n.toNat:=by
 unfold Xi;split
 ·refine⟨by omega,?_⟩;have:=Int.ofNat_lt.2 (kE s i.toNat n.toNat (by omega))
  rwa [Int.natCast_pow]at this
 ·exact⟨by omega,by have:(0:Int)<256^n.toNat:=Int.pow_pos (by omega);exact this⟩
set_option maxRecDepth 512 in
theorem UT(b:Nat)(s:ByteArray)(i:Int)(n:Nat)(hn:n<=8)(w:World)[h:yc b s i w][k:Bd s i] :
  yF 202 #[.pointer (some ⟨b,0,none⟩),.int .i64 (n:Int)] w (.tuple #[.int .u64 (Xi s i n),.int .i64 (Jj s i n)]) (w.setCell ⟨b,1,none⟩ (.int .i64 (X8 s i n))):=by
 refine⟨?_⟩;haveI:=h.old;have h0:=h.c0;have h1:=h.c1;have k0:=k.lo;have k1:=k.hi;have k2:=k.sz
 by_cases hl:i+n<=s.size
 ·obtain⟨j,rfl⟩:=Int.eq_ofNat_of_zero_le k0;have e1:Xi s (j:Int) n=num s j n:=by unfold Xi;rw [if_pos hl];simp
  have e2:Jj s (j:Int) n=0:=if_pos hl;have e3:X8 s (j:Int) n=((j+n:Nat):Int):=by unfold X8;rw [if_pos hl];simp
  rw [e1,e2,e3];exact U3 hn (by omega) (by omega) w ⟨h.old,h0,h1,h.fr⟩
 ·have e1:Xi s i n=0:=if_neg hl;have e2:Jj s i n=2:=if_neg hl;have e3:X8 s i n=i:=if_neg hl;rw [e1,e2,e3,Kj h1];clear e1 e2 e3
  go_in
  go_wp2_with(with_reducible refine Fn.go λ g=>?_);go_ret2;exact⟨rfl,_,rfl⟩
instance Znf(b:Nat)(s:ByteArray)(i:Int)(w:World)[h:yc b s i w][k:Bd s i]:yF 202 #[.pointer (some ⟨b,0,none⟩),.int .i64 4] w (.tuple #[.int .u64 (Xi s i 4),.int .i64 (Jj s i 4)]) (w.setCell ⟨b,1,none⟩ (.int .i64 (X8 s i 4))):=UT b s i 4 (by omega) w
instance Znl(b:Nat)(s:ByteArray)(i:Int)(w:World)[h:yc b s i w][k:Bd s i]:yF 202 #[.pointer (some ⟨b,0,none⟩),.int .i64 8] w (.tuple #[.int .u64 (Xi s i 8),.int .i64 (Jj s i 8)]) (w.setCell ⟨b,1,none⟩ (.int .i64 (X8 s i 8))):=UT b s i 8 (by omega) w
set_option maxRecDepth 512 in
instance Zo5(b:Nat)(s:ByteArray)(i:Int)(w:World)[h:yc b s i w][k:Bd s i]:yF 238 #[.pointer (some ⟨b,0,none⟩)] w (.tuple #[.int .i64 (Xi s i 4),.int .i64 (Jj s i 4)]) (w.setCell ⟨b,1,none⟩ (.int .i64 (X8 s i 4))):=by
 refine⟨?_⟩;obtain⟨b0,b1⟩:=kg s i 4 k.lo (by omega);have b1:Xi s i 4<4294967296:=b1
 go_in
 go_wp2_with(with_reducible refine yF.go λ g=>?_);go_ret2;exact⟨rfl,_,rfl⟩
set_option maxRecDepth 512 in
instance ZpC(b:Nat)(s:ByteArray)(i:Int)(w:World)[h:yc b s i w][k:Bd s i]:yF 232 #[.pointer (some ⟨b,0,none⟩)] w (.tuple #[.int .u64 (Xi s i 8),.int .i64 (Jj s i 8)]) (w.setCell ⟨b,1,none⟩ (.int .i64 (X8 s i 8))):=by
 refine⟨?_⟩
 go_in
 go_wp2_with(with_reducible refine yF.go λ g=>?_);go_ret2;exact⟨rfl,_,rfl⟩
def yS(s:ByteArray)(i:Int):Int:=if i+8<=s.size/\Xi s i 8<=4611686018427387903 then Xi s i 8 else 0
def zQ(s:ByteArray)(i:Int):Int:=if i+8<=s.size then(if Xi s i 8<=4611686018427387903 then 0 else 3)else 2
def qe(s:ByteArray)(i:Int):Int:=if i+8<=s.size/\Xi s i 8<=4611686018427387903 then i+8 else i
@[go_sem] theorem Zne (w:World) (b k:Nat) (u v:Value):(w.setCell ⟨b,k,none⟩ u).setCell ⟨b,k,none⟩ v=w.setCell ⟨b,k,none⟩ v:=by
 simp only [World.setCell]
 congr 1
 apply Array.ext_getElem?;intro n;simp only [Array.getElem?_modify]
 by_cases hn:b=n
 ·subst hn;simp only [if_pos];cases w.heap[b]? with
  |none=>rfl
  |some o=>cases o<;>simp
 ·simp [hn]
set_option maxRecDepth 512 in
instance Zcr(b:Nat)(s:ByteArray)(i:Int)(w:World)[h:yc b s i w][k:Bd s i]:yF 143 #[.pointer (some ⟨b,0,none⟩)] w (.tuple #[.int .i64 (yS s i),.int .i64 (zQ s i)]) (w.setCell ⟨b,1,none⟩ (.int .i64 (qe s i))):=by
 refine⟨?_⟩;haveI:=h.old;have h0:=h.c0;have h1:=h.c1;have hf:=h.fr;have k0:=k.lo;have k1:=k.hi;have k2:=k.sz;have b0:=(kg s i 8 k.lo (by omega)).1
 by_cases hl:i+8<=s.size
 ·have e0:X8 s i 8=i+8:=if_pos hl;have e1:Jj s i 8=0:=if_pos hl
  by_cases hm:Xi s i 8<=4611686018427387903
  ·have f1:yS s i=Xi s i 8:=if_pos ⟨hl,hm⟩;have f2:zQ s i=0:=by unfold zQ;rw [if_pos hl,if_pos hm]
   have f3:qe s i=i+8:=if_pos ⟨hl,hm⟩;rw [f1,f2,f3];clear f1 f2 f3
   go_in
   go_wp2_with(with_reducible refine yF.go λ g=>?_);go_ret2;exact⟨rfl,_,rfl⟩
  ·have f1:yS s i=0:=if_neg (λ h=>hm h.2);have f2:zQ s i=3:=by unfold zQ;rw [if_pos hl,if_neg hm]
   have f3:qe s i=i:=if_neg (λ h=>hm h.2);rw [f1,f2,f3];clear f1 f2 f3
   go_in
   go_wp2_with(with_reducible refine yF.go λ g=>?_);go_ret2;exact⟨rfl,_,rfl⟩
 ·have e0:X8 s i 8=i:=if_neg hl;have e1:Jj s i 8=2:=if_neg hl;have f1:yS s i=0:=if_neg (λ h=>hl h.1);have f2:zQ s i=2:=if_neg hl;have f3:qe s i=i:=if_neg (λ h=>hl h.1);rw [f1,f2,f3];clear f1 f2 f3
  go_in
  go_wp2_with(with_reducible refine yF.go λ g=>?_);go_ret2;exact⟨rfl,_,rfl⟩
def Jg(s:ByteArray)(i n:Int):ByteArray:=if i+n<=s.size then s.extract i.toNat (i+n).toNat else jg
set_option maxRecDepth 512 in
theorem zF(b:Nat)(s:ByteArray)(i n:Int)(hn:0<=n)(hn2:n<=65536)(w:World)[h:yc b s i w][k:Bd s i]:yF 140 #[.pointer (some ⟨b,0,none⟩),.int .i64 n] w (.tuple #[.string (Jg s i n),.int .i64 (Jj s i n)]) (w.setCell ⟨b,1,none⟩ (.int .i64 (X8 s i n))):=by
 refine⟨?_⟩;haveI:=h.old;have h0:=h.c0;have h1:=h.c1;have hf:=h.fr;have k0:=k.lo;have k1:=k.hi;have k2:=k.sz
 by_cases hl:i+n<=s.size
 ·have f1:Jg s i n=s.extract i.toNat (i+n).toNat:=if_pos hl;have f2:Jj s i n=0:=if_pos hl;have f3:X8 s i n=i+n:=if_pos hl;rw [f1,f2,f3];clear f1 f2 f3
  go_in
  go_wp2_with(with_reducible refine Fn.go λ g=>?_);refine plZ (.q [0,1,2,3,4,5,6,7,8,9,10,11,12,13,14,15,16] .d) ?_;simp only [Zk.run,pick,gZ,gS,gA,gN]
  (repeat go_big_quiet_step (exact qZ));refine nZ ?_;rintro _ ⟨g,rfl⟩
  go_wp2_with fail;go_ret2;exact⟨rfl,_,rfl⟩
 ·have f1:Jg s i n=jg:=if_neg hl;have f2:Jj s i n=2:=if_neg hl;have f3:X8 s i n=i:=if_neg hl;rw [f1,f2,f3,Kj h1];clear f1 f2 f3
  go_in
  go_wp2_with(with_reducible refine Fn.go λ g=>?_);go_ret2;exact⟨rfl,_,rfl⟩
class Sz(s:ByteArray):Prop where
 h:s.size<=9223372036854775807
def Ve(s:ByteArray):ByteArray:=⟨(Lib.trimB s.data.toList 0).toArray⟩
instance Zm9(s:ByteArray)(w:World)[h:Sz s]:Fn 144 #[.string s,.string ⟨#[0]⟩] w (.string (Ve s)) :=
 ⟨(Tryz.strings_Trim_one s 0 (by decide) w h.h).mono λ e w' ⟨he,hw⟩=>⟨he,by rcases hw with rfl|rfl;exact Below.refl _ _;exact(Below.refl _ _).drew⟩⟩
instance ZlW(s:ByteArray)(i j:Nat)[h:Sz s]:Sz (s.extract i j):=⟨by have:=h.h;rw [ByteArray.size_extract];omega⟩
def Qd(s:ByteArray)(i:Int):Bool:=(Ve (s.extract i.toNat s.size)).toList.isEmpty
set_option maxRecDepth 512 in
instance ZaV(b:Nat)(s:ByteArray)(i:Int)(w:World)[h:yc b s i w][k:Bd s i]:Fn 83 #[.pointer (some ⟨b,0,none⟩)] w (.bool (Qd s i)):=by
 refine⟨?_⟩;haveI:=h.old;have h0:=h.c0;have h1:=h.c1;have k0:=k.lo;have k1:=k.hi;have k2:=k.sz;haveI:Sz s:=⟨by omega⟩
 go_in
 go_wp2_with fail;refine plZ (.q [0,1,2,3,4,5,6,7,8,9,10,11,12,13,14,15] .d) ?_;simp only [Zk.run,pick,gZ,gS,gA,gN]
 (repeat go_big_quiet_step (exact qZ));refine nZ ?_;rintro _ ⟨g,rfl⟩
 go_wp2_with fail;go_ret;exact ZM.mk rfl grown
end Go.Proofs.YtlfjdjndhcmliaaGreatDoor
