/- WholeOld, part 14. -/
import Derived.Test.YtlfjdjndhcmliaaGreatDoorA11
import Derived.Test.YtlfjdjndhcmliaaGreatDoorA13
import Derived.Test.YtlfjdjndhcmliaaGreatDoorA07
import Derived.Lib.AppendZerosOnto
set_option maxRecDepth 100000
set_option maxHeartbeats 4000000
set_option linter.all false
namespace Go.Proofs.YtlfjdjndhcmliaaGreatDoor
open Go.RowKit Go.Sort
theorem Ud{P:Program}{n:Nat}{g:Operand}{ps:Array Tmp}{assign body:Code}{Q:Exit->Act->World->Prop}{a:Act}{w:World}
  {gf:Nat} {lb:Array Value} (hg:a.eval g=.func (.func gf) #[] lb) (eg:∀ args w,(callFunc gf args).run P w=.ok (.enter gf args) w)
  {x:Array Value} {w0:World} (hseq:ZgR P gf lb x w0) (hb0:Below w0.heap.size w0 w) (hps:x.size=ps.size)
  (I:World->Prop) (Ix:World->Prop) (hI:Abides w.heap.size I) (hIx:Abides w.heap.size Ix) (h0:I w) (a₁:Act)
  (hassign:∀(l m:Nat)(W:World)(K:Act->World->Prop),K a₁ W ->
   assign.wpIn (Fence.wide.inRound l) m P (Exit.then K (λ _ _ _=>False)) { tmps:=(ps.zip x).foldl (λ t (p,v)=>t.setIfInBounds p v) a.tmps,defers:=[] } W)
  (hbody:∀(l m:Nat)(W:World),I W->body.wpIn (Fence.wide.inRound l) m P (λ e _ W'=>e=.ret/\Kept w.heap.size W W'/\Ix W') a₁ W)
  (hstop:∀(D:Nat)(W:World),w.heap.size<=D->Ix W->W.heap[D]?=some (.deferred (some []))->Code.ret.wpIn Fence.wide n P Q { a with defers:={ target:=.collected D,args:=#[] }::a.defers } W) :
  (Code.rangeFunc g ps assign body).wpIn Fence.wide n P Q a w:=by
 refine wpIn_rangeFunc ?_;intro fn hfn;rw [show Fence.wide.round=none from rfl];obtain⟨rec,hrec⟩:∃ rec:LoopState->Option Code->Loop,rec=λ st pe=>{ state:=st,pending:=pe,fn,tmps:=a.tmps,params:=ps,assign,body,defers:=w.heap.size }:=⟨_,rfl⟩
 obtain⟨W1,hW1⟩:∃ W1,(w.alloc (.deferred (some []))).alloc (.loop (rec .ready none))=W1:=⟨_,rfl⟩
 have hs1:W1.heap.size=w.heap.size+2:=by rw [<-hW1];simp
 have hL1:W1.heap[w.heap.size+1]?=some (.loop (rec .ready none)):=by
  rw [<-hW1];have:=World.alloc_heap_new (w.alloc (.deferred (some []))) (.loop (rec .ready none));rwa [World.size_alloc]at this
 have hK1:W1.heap[w.heap.size]?=some (.deferred (some [])):=by
  rw [<-hW1];exact(Below.heap_alloc _ _ _ (by simp)).trans (World.alloc_heap_new w _)
 have hbw:Below w.heap.size w W1:=by rw [<-hW1];exact((Below.refl _ w).alloc (Nat.le_refl _) _).alloc (by simp) _
 have hI1:I W1:=hI _ _ h0 hbw;have hb1:Below w0.heap.size w0 W1:=hb0.trans (hbw.mono hb0.size)
 refine⟨w.heap.size+1,[{ target:=.collected w.heap.size,args:=#[] }],W1,{ target:=.fn (.func gf) lb,args:=#[.func (.yield (w.heap.size+1)) #[] #[]] },W1,gf,
  #[.func (.yield (w.heap.size+1)) #[] #[]]++lb,W1,?_,?_,?_,?_,λ h=>(by simp [Fence.wide]at h),?_⟩
 ·rw [<-hW1,hrec];exact run_enterLoop_outer _ _ _ _ _
 ·simp only [resolve,hg];simp [go_sem]
 ·intro f' hf';trivial
 ·simp [invoke,go_sem,eg]
 ·refine callsIn_wide.2 ?_
  refine(hseq (w.heap.size+1)
   (λ W=>I W/\W.heap[w.heap.size+1]?=some (.loop (rec .ready none))/\W.heap[w.heap.size]?=some (.deferred (some [])))
   (λ W=>Ix W/\W.heap[w.heap.size+1]?=some (.loop (rec .done (some .ret)))/\W.heap[w.heap.size]?=some (.deferred (some [])))
   W1 hb1
   (λ A B hs hab=>⟨hI A B hs.1 (hab.mono (by omega)),(hab.block _ (by omega)).trans hs.2.1,(hab.block _ (by omega)).trans hs.2.2⟩)
   (λ A B hs hab=>⟨hIx A B hs.1 (hab.mono (by omega)),(hab.block _ (by omega)).trans hs.2.1,(hab.block _ (by omega)).trans hs.2.2⟩)
   ?_ ⟨hI1,hL1,hK1⟩).mono ?_
  ·-- the round
   rintro m W ⟨hi,hl,hk⟩;have hlt:w.heap.size+1<W.heap.size:=(Array.getElem?_eq_some_iff.1 hl).1;have hy:=run_yield (P:=P) (args:=x) hl (by rw [hrec];exact hps);rw [hrec]at hy;refine⟨fn,_,assign,body,hy,roundIn_of_wpIn hfn (hassign _ _ W _ ⟨_,run_beginRound hl (by rw [hrec]),?_⟩)⟩;have hl2:(W.putObj (w.heap.size+1) (.loop { rec .ready none with state:=.busy })).heap[w.heap.size+1]?=some (.loop { rec .ready none with state:=.busy }):=World.putObj_heap_same hlt;have hk2:(W.putObj (w.heap.size+1) (.loop { rec .ready none with state:=.busy })).heap[w.heap.size]?=some (.deferred (some [])):=(World.putObj_heap_other (by omega)).trans hk;have hz2:(W.putObj (w.heap.size+1) (.loop { rec .ready none with state:=.busy })).heap.size=W.heap.size:=by simp [World.putObj]
   have hi2:=hI _ _ hi (Xw W (w.heap.size+1) _ (.loop { rec .ready none with state:=.busy }) (by omega) hl (by omega));refine wpIn_mono (hbody _ _ _ hi2) ?_;rintro e a3 W3 ⟨rfl,hk3,hi3⟩;replace hk3:Kept w.heap.size (W.putObj (w.heap.size+1) (.loop { rec .ready none with state:=.busy })) W3:=hk3;have hl3:=(hk3.same _ (by omega) (by omega)).trans hl2;have hkk:=(hk3.same _ (Nat.le_refl _) (by omega)).trans hk2;have hsz:=hk3.size;have hr:=run_endRound (P:=P) (some .ret) hl3;rw [hrec]at hr;rw [hrec]at hl3;refine⟨_,_,hr,rfl,hIx _ _ hi3 (Xw _ _ _ _ (by omega) hl3 (by omega)),by rw [hrec];exact World.putObj_heap_same (Array.getElem?_eq_some_iff.1 hl3).1,(World.putObj_heap_other (by omega)).trans hkk⟩
  ·-- behind the iterator
   rintro e W2 ⟨⟨v,rfl⟩,hi,hl,hk⟩;have hlt:w.heap.size+1<W2.heap.size:=(Array.getElem?_eq_some_iff.1 hl).1;exact⟨some .ret,_,by have:=run_endLoop (P:=P) hl (by rw [hrec];simp);rw [hrec]at this;exact this,hstop _ _ (Nat.le_refl _) (hIx _ _ hi (Xw _ _ _ _ (by omega) hl (by omega))) ((World.putObj_heap_other (by omega)).trans hk)⟩
theorem Zeo(t:ByteArray)(i:Nat):(Zha t i).data.toList=(t.data.toList.drop (64*i)).take 64:=by
 simp [Zha,ByteArray.data_extract,Array.toList_extract,List.extract_eq_take_drop]
theorem qJ(t:ByteArray):∀ z,(Z6 t z).flatMap (λ s=>s.data.toList)=t.data.toList.take (64*z)
 |0=>by simp [Z6]
 |z+1=>by
  have ih:=qJ t z;simp only [Z6,List.range_succ,List.map_append,List.flatMap_append]at ih ⊢;rw [ih];simp only [List.map_cons,List.map_nil,List.flatMap_cons,List.flatMap_nil,List.append_nil,Zeo];rw [show 64*(z+1)=64*z+64 by omega,List.take_add]
theorem Zbt(L:List YG)(D:List ByteArray):∀ k,k<=L.length->Ke L (XT L D) k=(List.range (JT L k)).flatMap λ i=>(D.getD (i%D.length) ⟨#[]⟩).data.toList
 |0,_=>rfl
 |k+1,hk=>by
  have ih:=Zbt L D k (by omega);obtain⟨c,hc⟩:∃ c,L[k]?=some c:=⟨_,List.getElem?_eq_getElem (by omega)⟩
  obtain⟨s,hs⟩:∃ s,(XT L D)[k]?=some s:=⟨_,List.getElem?_eq_getElem (by rw [zM];omega)⟩
  rw [UO hc hs,jc hc,ih];cases hp:c.par
  ·rw [ZdD hc hp]at hs;cases hs;simp [List.range_succ]
  ·simp
theorem ZeV(t:ByteArray)(z:Nat):(List.range z).flatMap (λ i=>((Z6 t z).getD (i%(Z6 t z).length) ⟨#[]⟩).data.toList)=t.data.toList.take (64*z):=by
 rw [<-qJ t z,XX]
 conv=>rhs;rw [Z6,List.flatMap_map]
 simp only [List.flatMap]
 congr 1
 refine List.map_congr_left λ i hi=>?_
 have hi:i<z:=by simpa using hi
 rw [Nat.mod_eq_of_lt hi];simp [Z6,hi]
theorem Zez{s:ZO}{secs:Int}(h:ZT s secs){grp:Nat}(hg:grp<s.len)(at_ z:Nat)(hz:1<=z/\z<=4)(t:ByteArray)(ht:t.size=64*z) :
  Zcm s grp z (Zz s grp at_ z).length (XT (Zz s grp at_ z) (Z6 t z)) (Zz s grp at_ z)=t:=by
 have hw:=Yk h hg;have hl:=(JX h hg (at_:=at_) hz).1;have hlist:t.data.toList.take (64*z)=t.data.toList:=List.take_of_length_le (by rw [<-ht];exact Nat.le_refl _);unfold Zcm;split
 ·rename_i hx;rw [Int.toNat_natCast]at hx
  have hL:∀(i:Nat)(c:YG),(Zz s grp at_ z)[i]?=some c->c.par=false:=λ i c e=>by
   unfold Zz at e;rw [if_pos (by simpa using hx)]at e;simp only [List.getElem?_map,Option.map_eq_some_iff]at e;obtain⟨_,_,rfl⟩:=e;rfl
  generalize Zz s grp at_ z=L at *
  have hc:∀ i,i<=L.length->JT L i=i:=λ i=>by
   induction i with
   |zero=>intro _;rfl
   |succ i ih =>
    intro hi;obtain⟨c,hc⟩:∃ c,L[i]?=some c:=⟨_,List.getElem?_eq_getElem (by omega)⟩
    rw [jc hc,ih (by omega),hL i c hc];rfl
  have e:(XT L (Z6 t z)).take z=Z6 t z:=by
   refine List.ext_getElem? λ i=>?_
   rcases Nat.lt_or_ge i z with hi|hi
   ·obtain⟨c,hci⟩:∃ c,L[i]?=some c:=⟨_,List.getElem?_eq_getElem (by omega)⟩
    rw [List.getElem?_take_of_lt hi,ZdD hci (hL i c hci),hc i (by omega),XX,Nat.mod_eq_of_lt hi];simp [Z6,hi]
   ·rw [List.getElem?_eq_none (by simp [zM];omega),List.getElem?_eq_none (by rw [XX];omega)]
  rw [e];unfold qp;rw [qJ,hlist]
 ·rename_i hx;rw [Int.toNat_natCast]at hx;have hx1:s.x grp≠0:=hx
  have hL:JT (Zz s grp at_ z) (Zz s grp at_ z).length=z:=by
   unfold JT;rw [List.take_length];unfold Zz;rw [if_neg (by simpa using hx)];rw [Zax];rfl
  rw [Zbt _ _ _ (Nat.le_refl _),hL,ZeV,hlist]
abbrev KS:=Pt->ByteArray->Prop
def KS.le(K K':KS):Prop:=∀ p t,K p t->K' p t
theorem KS.le.refl(K:KS):K.le K:=λ _ _ h=>h
theorem KS.le.trans{a b c:KS}(h:a.le b)(h':b.le c):a.le c:=λ p t e=>h' p t (h p t e)
def KS.add(K:KS)(p:Pt)(t:ByteArray):KS:=λ q u=>K q u\/(q=p/\u=t)
theorem KS.le_add(K:KS)(p:Pt)(t:ByteArray):K.le (K.add p t):=λ _ _ h=>.inl h
theorem KS.add_at(K:KS)(p:Pt)(t:ByteArray):K.add p t p t:=.inr ⟨rfl,rfl⟩
def ZH(t:ByteArray)(j:Nat):UInt8:=t.data.toList.getD j 0
theorem ZA{t:ByteArray}{j:Nat}(h:t.size<=j):ZH t j=0:=by
 unfold ZH;rw [List.getD_eq_getElem?_getD,List.getElem?_eq_none (by rw [Zi];exact h)];rfl
def bl:Nat->Nat
 |0=>1
 |n+1=>4*bl n
def span(n:Nat):Nat:=256*bl n
def zO(g:Nat->UInt8)(i:Nat)(s:ByteArray)(j:Nat):UInt8:=if 256*i<=j/\j<256*(i+1)then ZH s (j-256*i)else g j
def Kg(g:Nat->UInt8)(m:Int)(j:Nat):UInt8:=if (j:Int)<m then g j else 0
def Tr(K:KS):Nat->Pt->(Nat->UInt8)->Prop
 |0,p,g=>(p=Pt.none/\∀ j,j<256->g j=0)\/(p.isNone=false/\p.level=0/\∃ t,K p t/\(t.size≠0/\t.size%64=0/\t.size<=256)/\∀ j,j<256->g j=ZH t j)
 |n+1,p,g=>(p=Pt.none/\∀ j,j<span (n+1)->g j=0)\/(p.isNone=false/\p.level=n+1/\∃ l,Qi l/\K p (QI l)/\∀ k,k<4->Tr K n (l k) λ j=>g (span n*k+j))
theorem Tr.mono{K K':KS}(h:K.le K'):∀ {n:Nat} {p:Pt} {g:Nat->UInt8},Tr K n p g->Tr K' n p g
 |0,_,_,.inl a=>.inl a
 |0,_,_,.inr ⟨a,b,t,c,d⟩=>.inr ⟨a,b,t,h _ _ c,d⟩
 |_+1,_,_,.inl a=>.inl a
 |_+1,_,_,.inr ⟨a,b,l,c,d,e⟩=>.inr ⟨a,b,l,c,h _ _ d,λ k hk=>(e k hk).mono h⟩
theorem Tr.congr{K:KS}:∀ {n:Nat} {p:Pt} {g g':Nat->UInt8},Tr K n p g->(∀ j,j<span n->g' j=g j)->Tr K n p g'
 |0,_,_,_,.inl ⟨a,b⟩,e=>.inl ⟨a,λ j hj=>(e j hj).trans (b j hj)⟩
 |0,_,_,_,.inr ⟨a,b,t,c,d,f⟩,e=>.inr ⟨a,b,t,c,d,λ j hj=>(e j hj).trans (f j hj)⟩
 |_+1,_,_,_,.inl ⟨a,b⟩,e=>.inl ⟨a,λ j hj=>(e j hj).trans (b j hj)⟩
 |n+1,_,_,_,.inr ⟨a,b,l,c,d,f⟩,e=>.inr ⟨a,b,l,c,d,λ k hk=>(f k hk).congr λ j hj=>e _ (by
   unfold span at *;simp only [bl];have:bl n*k<=bl n*3:=Nat.mul_le_mul_left _ (by omega)
   rw [Nat.mul_assoc];omega)⟩
theorem Pt.none_isNone:Pt.none.isNone=true:=(J5 _ _).2 rfl
theorem Pt.isNone_iff(p:Pt):p.isNone=true↔p=Pt.none:=J5 _ _
theorem Tr.zero(K:KS){n:Nat}{g:Nat->UInt8}(h:∀ j,j<span n->g j=0):Tr K n Pt.none g:=by
 cases n with
 |zero=>exact .inl ⟨rfl,h⟩
 |succ n=>exact .inl ⟨rfl,h⟩
theorem Tr.zeros{K:KS}{n:Nat}{g:Nat->UInt8}(h:Tr K n Pt.none g):∀ j,j<span n->g j=0:=by
 cases n with
 |zero=>rcases h with h|h;exact h.2;rw [Pt.none_isNone]at h;cases h.1
 |succ n=>rcases h with h|h;exact h.2;rw [Pt.none_isNone]at h;cases h.1
theorem Tr.lv{K:KS}{n:Nat}{p:Pt}{g:Nat->UInt8}(h:Tr K n p g):p=Pt.none\/p.isNone=false/\p.level=n/\∃ t,K p t:=by
 cases n with
 |zero=>rcases h with h|⟨a,b,t,c,_⟩;exact .inl h.1;exact .inr ⟨a,b,t,c⟩
 |succ n=>rcases h with h|⟨a,b,l,_,c,_⟩;exact .inl h.1;exact .inr ⟨a,b,_,c⟩
theorem Tr.links{K:KS}{n:Nat}{p:Pt}{g:Nat->UInt8}(h:Tr K (n+1) p g):∃ l:Nat->Pt,Qi l/\(p=Pt.none/\l=Y9\/p.isNone=false/\K p (QI l))/\∀ k,k<4->Tr K n (l k) λ j=>g (span n*k+j):=by
 rcases h with ⟨a,b⟩|⟨a,_,l,c,d,e⟩
 ·refine⟨Y9,⟨λ k=>?_⟩,.inl ⟨a,rfl⟩,λ k hk=>Tr.zero K λ j hj=>b _ ?_⟩
  ·exact⟨by kernel_rfl,QX⟩
  ·unfold span at *;simp only [bl];have:bl n*k<=bl n*3:=Nat.mul_le_mul_left _ (by omega);rw [Nat.mul_assoc];omega
 ·exact⟨l,c,.inr ⟨a,d⟩,e⟩
theorem Tr.set{K:KS}{n:Nat}{p q:Pt}{l:Nat->Pt}{g:Nat->UInt8}{i:Nat}{s:ByteArray}(hn:n<3)(hl:∀ k,k<4->Tr K n (l k) λ j=>g (span n*k+j))
  (hp:Tr K n p (zO (λ j=>g (span n*(i/bl n)+j)) (i%bl n) s)) (hq:q.isNone=false) (hv:q.level=n+1) (hf:Qi (upd l (i/bl n) p)) (hK:K q (QI (upd l (i/bl n) p))):Tr K (n+1) q (zO g i s):=by
 refine .inr ⟨hq,hv,_,hf,hK,λ k hk=>?_⟩
 by_cases e:k=i/bl n
 ·subst e;have:upd l (i/bl n) p (i/bl n)=p:=if_pos rfl;rw [this];refine hp.congr λ j hj=>?_
  match n,hn with
  |0,_=>simp only [zO,span,bl]at *;grind
  |1,_=>simp only [zO,span,bl]at *;grind
  |2,_=>simp only [zO,span,bl]at *;grind
 ·have:upd l (i/bl n) p k=l k:=if_neg e;rw [this];refine(hl k hk).congr λ j hj=>?_
  match n,hn with
  |0,_=>simp only [zO,span,bl]at *;exact if_neg (by omega)
  |1,_=>simp only [zO,span,bl]at *;exact if_neg (by omega)
  |2,_=>simp only [zO,span,bl]at *;exact if_neg (by omega)
theorem Tr.up{K:KS}{n:Nat}{p q:Pt}{g:Nat->UInt8}(h:Tr K n p g)(hq:q.isNone=false)(hv:q.level=n+1)(hf:Qi (upd Y9 0 p))(hK:K q (QI (upd Y9 0 p)))(hz:∀ j,span n<=j->g j=0):Tr K (n+1) q g:=by
 refine .inr ⟨hq,hv,_,hf,hK,λ k hk=>?_⟩;cases k with
 |zero=>exact h.congr λ j _=>by simp
 |succ k=>exact Tr.zero K λ j _=>hz _ (by
   have:span n*1<=span n*(k+1):=Nat.mul_le_mul_left _ (by omega)
   omega)
theorem Tr.down{K:KS}{n:Nat}{l:Nat->Pt}{g:Nat->UInt8}(h:∀ k,k<4->Tr K n (l k) λ j=>g (span n*k+j)):Tr K n (l 0) g:=(h 0 (by omega)).congr λ j _=>by simp
theorem Uc:∀ n,0<bl n
 |0=>by decide
 |n+1=>by have:=Uc n;simp only [bl];omega
theorem ye:∀ {n m:Nat},n<=m->bl n<=bl m
 |_,0,h=>by obtain rfl:_=0:=Nat.le_zero.1 h;exact Nat.le_refl _
 |n,m+1,h=>by
  rcases Nat.lt_or_ge m n with e|e
  ·obtain rfl:n=m+1:=by omega
   exact Nat.le_refl _
  ·have:=ye e;simp only [bl];omega
structure Ob(K:KS)(n:Nd)(g:Nat->UInt8):Prop where
 sz:0<=n.size/\n.size<=16384
 tr:Tr K (zN n.size).toNat n.root g
 z:∀ j:Nat,n.size<=j->g j=0
theorem Ks(n:Int):0<=zN n/\zN n<=3:=by unfold zN;split;omega;split;omega;split<;>omega
theorem JV{n:Int}(h:n<=16384):n<=span (zN n).toNat:=by
 unfold zN;split
 ·simp [span,bl];omega
 ·split
  ·simp [span,bl];omega
  ·split<;>simp [span,bl]<;>omega
theorem kh{m n:Int}(h:m<=n):zN m<=zN n:=by unfold zN;split<;>split<;>(try split)<;>(try split)<;>(try split)<;>(try split)<;>omega
theorem Ob.mono{K K':KS}{n:Nd}{g:Nat->UInt8}(o:Ob K n g)(h:K.le K'):Ob K' n g:=⟨o.sz,o.tr.mono h,o.z⟩
theorem Ob.none(K:KS):Ob K Nd.none λ _=>0:=⟨by decide,Tr.zero K λ _ _=>rfl,λ _ _=>rfl⟩
def jD(g:Nat->UInt8)(off:Nat)(s:ByteArray)(j:Nat):UInt8:=if off<=j/\j<off+s.size then ZH s (j-off)else g j
def txt(g:Nat->UInt8)(off n:Nat):ByteArray:=⟨((List.range n).map λ j=>g (off+j)).toArray⟩
theorem YA(g:Nat->UInt8)(off n:Nat):(txt g off n).size=n:=by show ((List.range n).map λ j=>g (off+j)).toArray.size=n;simp
theorem Ja{g:Nat->UInt8}{off n j:Nat}(h:j<n):ZH (txt g off n) j=g (off+j):=by simp [ZH,txt,h]
theorem Zcl{s:ByteArray}{g:Nat->UInt8}{off n:Nat}(hs:s.size=n)(h:∀ j,j<n->ZH s j=g (off+j)):s=txt g off n:=by
 refine Yu (List.ext_getElem (by rw [Zi,Zi,YA,hs]) λ j h1 h2=>?_);rw [Zi]at h1 h2;have e:=h j (by omega);rw [<-Ja (g:=g) (off:=off) (n:=n) (by omega)]at e;unfold ZH at e;rw [List.getD_eq_getElem?_getD,List.getD_eq_getElem?_getD,List.getElem?_eq_getElem (by rw [Zi];omega),List.getElem?_eq_getElem (by rw [Zi];omega)]at e;simpa using e
class Bt(W:outParam World)(h:outParam Hl)(l:outParam (List SP))(w:World):Prop where
 t:Zg W h (star l) w
theorem Bt.start{W:World}{h:Hl}[i:Has W h]{p:SP}(s:p h):Bt W h [p] W:=⟨Zg.same i ⟨h,λ _=>none,s,trivial,λ _ _ e=>e,(λ n o e=>by cases e),λ n=>.inr rfl⟩⟩
theorem Zg.join{W w w':World}{h:Hl}{l:List SP}{p:SP}(T:Zg W h (star l) w)(hg:∃ g,w'=Go.Proofs.YtlfjdjndhcmliaaGreatDoor.gr w g)(c:∃ h,p h/\Has w' h/\Qf w.heap.size h):Zg W h (star (p::l)) w':=by
 obtain⟨m,h1,i,x,s⟩:=T;obtain⟨g,rfl⟩:=hg;obtain⟨h',hp,j,o⟩:=c;refine⟨m.gr g,h1.or h',Has.or ii j,λ k hk e=>?_,s.cons hp (ko (λ n hn=>i.none hn) o)⟩;rw [Hl.or_right (x k hk e)];exact o.out k (Nat.lt_of_lt_of_le hk m.size)
theorem Zg.push{W w:World}{h:Hl}{l:List SP}(T:Zg W h (star l) w)(o:Obj){p:SP}(hp:p (one w.heap.size o)):Zg W h (star (p::l)) (w.alloc o) :=
 T.join (Zf (Z5 (Below.refl _ _) o)) ⟨_,hp,⟨λ n o' e=>by
  unfold one at e;split at e
  ·rename_i h1;subst h1;cases e;exact heap_alloc_new ..
  ·cases e⟩,⟨λ k hk=>if_neg (by omega)⟩⟩
theorem Zg.turn{W w w':World}{h:Hl}{l:List SP}{i:Nat}{p q:SP}(T:Zg W h (star l) w)(e:l[i]?=some p)(k:∀ h,p h->Has w h->Zg w h q w'):Zg W h (star (l.set i q)) w':=by
 obtain⟨m,h1,j,x,s⟩:=T;exact Zg.after m x (Zg.focus j s e k)
section
variable{W w:World}{h:Hl}{l:List SP}
theorem Bt.mem(B:Bt W h l w){i:Nat}{p:SP}(e:l[i]?=some p):∃ h0,p h0/\Has w h0:=by
 obtain⟨m,h1,j,x,s⟩:=B.t;obtain⟨h0,a,b⟩:=s.get e;exact⟨h0,a,j.sub b⟩
theorem Bt.fin_at(B:Bt W h l w)(i:Nat){p:SP}(e:l[i]?=some p):Zg W h p w:=by
 obtain⟨m,h1,j,x,s⟩:=B.t;obtain⟨h0,a,b⟩:=s.get e;exact⟨m,h0,j.sub b,λ n hn hh=>b.none (x n hn hh),a⟩
theorem Bt.perm{l':List SP}(B:Bt W h l w)(p:l.Perm l'):Bt W h l' w:=⟨B.t.mono λ _ s=>s.perm p⟩
theorem Bt.drop{p:SP}(B:Bt W h (p::l) w):Bt W h l w:=⟨B.t.mono λ _ ⟨_,_,_,b,_,d,_⟩=>b.sub d⟩
theorem Bt.map{i:Nat}{p q:SP}(B:Bt W h l w)(e:l[i]?=some p)(f:∀ h,p h->q h):Bt W h (l.set i q) w:=⟨B.t.mono λ _ s=>s.map e f⟩
theorem Bt.head{p q:SP}(B:Bt W h (p::l) w)(f:∀ h,p h->q h):Bt W h (q::l) w:=B.map (i:=0) rfl f
theorem Bt.ex{α:Type}{q:α->SP}(B:Bt W h ((λ h=>∃ x,q x h)::l) w):∃ x,Bt W h (q x::l) w:=by
 obtain⟨m,h1,j,x,s⟩:=B.t;obtain⟨y,s⟩:=star.ex (l:=(λ h=>∃ x,q x h)::l) (i:=0) (q:=q) s (by simp);exact⟨y,⟨m,h1,j,x,s⟩⟩
theorem Bt.pure{r:Prop}{q:SP}(B:Bt W h ((λ h=>r/\q h)::l) w):r/\Bt W h (q::l) w:=by
 obtain⟨m,h1,j,x,s⟩:=B.t;obtain⟨y,s⟩:=star.pure (l:=(λ h=>r/\q h)::l) (i:=0) (q:=q) s (by simp);exact⟨y,⟨m,h1,j,x,s⟩⟩
end
theorem star.app:∀ {l l':List SP} {h:Hl},star (l++l') h->star (star l::l') h
 | [],_,h,s=>⟨λ _=>none,h,trivial,s,(λ _ _ e=>by cases e),qg.refl h,λ _=>.inl rfl⟩
 |p::l,l',h,⟨h1,h2,a,b,c,d,e⟩=>by
  obtain⟨h3,h4,a',b',c',d',e'⟩:=star.app (l:=l) b;refine⟨h1.or h3,h4,⟨h1,h3,a,a',λ _ _ e=>Hl.or_left e,λ n o q=>?_,e.sub c'⟩,b',λ n o q=>?_,d'.trans d,λ n=>?_⟩
  ·rcases e n with e1|e1
   ·rw [Hl.or_right e1];exact q
   ·rw [c' n o q]at e1;cases e1
  ·unfold Hl.or at q;split at q
   ·rename_i h5;cases q;exact c n _ h5
   ·exact d n o (c' n o q)
  ·rcases e n with e1|e1
   ·rcases e' n with e2|e2
    ·exact .inl (by rw [Hl.or_right e1];exact e2)
    ·exact .inr e2
   ·exact .inr (d'.none e1)
theorem star.flat:∀ {l l':List SP} {h:Hl},star (star l::l') h->star (l++l') h
 | [],_,_,⟨_,_,_,b,_,d,_⟩=>b.sub d
 |p::l,l',h,⟨h1,h2,⟨h3,h4,a,a',c1,c2,c3⟩,b,c,d,e⟩=>by
  refine⟨h3,h4.or h2,a,star.flat (l:=l) ⟨h4,h2,a',b,λ _ _ e=>Hl.or_left e,λ n o q=>?_,e.symm.sub c2 |>.symm⟩,c1.trans c,λ n o q=>?_,λ n=>?_⟩
  ·rcases e n with e1|e1
   ·rw [Hl.or_right (c2.none e1)];exact q
   ·rw [q]at e1;cases e1
  ·unfold Hl.or at q;split at q
   ·rename_i h5;cases q;exact c n _ (c2 n _ h5)
   ·exact d n o q
  ·rcases c3 n with e1|e1
   ·exact .inl e1
   ·rcases e n with e2|e2
    ·exact .inl (c1.none e2)
    ·exact .inr (by rw [Hl.or_right e1];exact e2)
theorem Bt.flat{W w:World}{h:Hl}{l l':List SP}(B:Bt W h (star l::l') w):Bt W h (l++l') w:=⟨B.t.mono λ _ s=>s.flat⟩
theorem Bt.app{W w:World}{h:Hl}(l:List SP){l':List SP}(B:Bt W h (l++l') w):Bt W h (star l::l') w:=⟨B.t.mono λ _ s=>s.app⟩
class Szw(w:World)(n:outParam Nat):Prop where
 h:w.heap.size=n
instance(priority:=low) Zpe(w:World):Szw w w.heap.size:=⟨rfl⟩
instance Znb(w:World)(o:Obj)(n:Nat)[k:Szw w n]:Szw (w.alloc o) (n+1):=⟨by rw [World.size_alloc,k.h]⟩
instance Zqk(w:World)(a:Addr)(v:Value)(n:Nat)[k:Szw w n]:Szw (w.setCell a v) n:=⟨by rw [World.size_setCell,k.h]⟩
instance ZpS(w:World)(b:Nat)(X:Array Value)(n:Nat)[k:Szw w n]:Szw (w.setRow b X) n:=⟨by rw [setRow_size,k.h]⟩
class AtL(l:List SP)(n:Nat)(cs:outParam (Array Value)):Prop where
 e:∃(i:Nat)(t:TypeId),l[i]?=some (Zd n cs t)
instance Zot(l:List SP)(n:Nat)(cs:Array Value)(t:TypeId):AtL (Zd n cs t::l) n cs:=⟨0,t,rfl⟩
instance(priority:=low) ZoA(p:SP)(l:List SP)(n:Nat)(cs:Array Value)[k:AtL l n cs]:AtL (p::l) n cs:=by obtain⟨i,t,e⟩:=k.e;exact⟨i+1,t,e⟩
class VY(l:List SP)(n:Nat)(f:Array Value->Array Value)(l':outParam (List SP)):Prop where
 e:∃(i:Nat)(cs:Array Value)(t:TypeId),l[i]?=some (Zd n cs t)/\l'=l.set i (Zd n (f cs) t)
instance ZnF(l:List SP)(n:Nat)(f:Array Value->Array Value)(cs:Array Value)(t:TypeId):VY (Zd n cs t::l) n f (Zd n (f cs) t::l):=⟨0,cs,t,rfl,rfl⟩
instance(priority:=low) Znv(p:SP)(l l':List SP)(n:Nat)(f:Array Value->Array Value)[k:VY l n f l']:VY (p::l) n f (p::l'):=by obtain⟨i,cs,t,e,rfl⟩:=k.e;exact⟨i+1,cs,t,e,rfl⟩
class Foc(l:List SP)(p:SP)(k:outParam (SP->List SP)):Prop where
 e:∃ i:Nat,l[i]?=some p/\∀ q,k q=l.set i q
instance Znk(l:List SP)(p:SP):Foc (p::l) p (λ q=>q::l):=⟨0,rfl,λ _=>rfl⟩
instance(priority:=low) ZnU(r:SP)(l:List SP)(p:SP)(f:SP->List SP)[k:Foc l p f]:Foc (r::l) p (λ q=>r::f q):=by obtain⟨i,e,h⟩:=k.e;exact⟨i+1,e,λ q=>by rw [h];rfl⟩
class Zd7(l:List SP)(p:SP):Prop where
 e:∃ i:Nat,l[i]?=some p
instance ZnL(l:List SP)(p:SP):Zd7 (p::l) p:=⟨0,rfl⟩
instance(priority:=low) Znw(r:SP)(l:List SP)(p:SP)[k:Zd7 l p]:Zd7 (r::l) p:=by obtain⟨i,e⟩:=k.e;exact⟨i+1,e⟩
section
variable{W w:World}{h:Hl}{l:List SP}
instance ZnX(n:Nat)(cs:Array Value)(t:TypeId)[B:Bt W h l w][z:Szw w n]:Bt W h (Zd n cs t::l) (w.alloc (.cells cs t)):=⟨by have e:=z.h;subst e;exact B.t.push _ (QF _ _)⟩
instance(priority:=low) Zmf(o:Obj)[B:Bt W h l w]:Bt W h l (w.alloc o):=⟨B.t.of_alloc o⟩
instance ZrT(g:Gr)[B:Bt W h l w]:Bt W h l (gr w g):=⟨B.t.gr g⟩
theorem Zg.drew'{W w:World}{h:Hl}{P:Hl->Prop}(T:Zg W h P w):Zg W h P w.drew:=by
 obtain⟨m,h1,i,x,p⟩:=T;exact⟨m.drew,h1,ii,x,p⟩
instance Zn3[B:Bt W h l w]:Bt W h l w.drew:=⟨B.t.drew'⟩
instance ZqN{l':List SP}(n k:Nat)(v:Value)[B:Bt W h l w][s:VY l n (λ cs=>cs.setIfInBounds k v) l']:Bt W h l' (w.setCell ⟨n,k,none⟩ v):=by
 obtain⟨i,cs,t,e,rfl⟩:=s.e;exact⟨B.t.turn e λ h p i=>p.set k v w⟩
theorem Zd.setRow{b:Nat}{cs X:Array Value}{t:TypeId}{h:Hl}(p:Zd b cs t h)(w:World)[i:Has w h]:Zg w h (Zd b X t) (w.setRow b X):=by
 have hb:w.heap[b]?=some (.cells cs t (0,0)):=i.get _ _ p;refine⟨⟨rfl,rfl,rfl,by rw [setRow_size];exact Nat.le_refl _,λ k hk e=>setRow_other w b k X (λ e2=>by rw [e2,show h b=_ from p]at e;cases e)⟩,h.put b (.cells X t),⟨λ m o e=>?_⟩,λ n hn e=>?_,Hl.put_same ..⟩
 ·by_cases hm:m=b
  ·subst hm;rw [Hl.put_same]at e;cases e;exact setRow_heap w m cs X t (0,0) hb
  ·rw [Hl.put_other _ _ hm]at e;rw [setRow_other w b m X hm];exact i.get m o e
 ·by_cases hm:n=b
  ·subst hm;rw [show h n=_ from p]at e;cases e
  ·rw [Hl.put_other _ _ hm];exact e
instance ZpL{l':List SP}(n:Nat)(X:Array Value)[B:Bt W h l w][s:VY l n (λ _=>X) l']:Bt W h l' (w.setRow n X):=by
 obtain⟨i,cs,t,e,rfl⟩:=s.e;exact⟨B.t.turn e λ h p i=>p.setRow w⟩
theorem Bt.cls{w':World}(B:Bt W h l w)(c:YL w w'):Bt W h l w':=by
 obtain⟨g,rfl⟩:=c;infer_instance
theorem Ze{w':World}[B:Bt W h l w](c:YL w w'):Bt W h l w':=B.cls c
instance(priority:=low) ZiT(n:Nat)(cs:Array Value)[B:Bt W h l w][a:AtL l n cs]:Zh w n cs:=by
 obtain⟨i,t,e⟩:=a.e;obtain⟨h0,p,j⟩:=B.mem e;exact⟨t,j.get _ _ p⟩
instance(priority:=low) ZpG(n:Nat)(cs:Array Value)[B:Bt W h l w][a:AtL l n cs]:Yc n w:=Zh.old (cs:=cs) (ZiT n cs)
instance(priority:=low) ZrB(p:SP)[B:Bt W h l w][m:Zd7 l p]:In p w:=by
 obtain⟨i,e⟩:=m.e;obtain⟨h0,p,j⟩:=B.mem e;exact⟨h0,p,j⟩
theorem Bt.fin{p:SP}[B:Bt W h l w][m:Zd7 l p]:Zg W h p w:=by
 obtain⟨i,e⟩:=m.e;exact B.fin_at i e
end
def Tq(f:FuncId)(args:Array Value)(p:SP)(R:Value->SP->Prop):Prop:=∀ W h,Has W h->p h->Calls Tryz.prog f args W λ e w'=>∃ v q,e=.returned v/\R v q/\Zg W h q w'
theorem Tq.mono{f:FuncId}{args:Array Value}{p:SP}{R R':Value->SP->Prop}(t:Tq f args p R)(h:∀ v q,R v q->∃ q',R' v q'/\∀ h,q h->q' h):Tq f args p R':=λ W hh i s =>
 (t W hh i s).mono λ _ _ ⟨v,q,e,r,T⟩=>by
  obtain⟨q',r',k⟩:=h v q r;exact⟨v,q',e,r',T.mono k⟩
theorem Tu.q{f:FuncId}{args:Array Value}{p:SP}{q:Value->SP}(t:Tu f args p q):Tq f args p λ v q'=>q'=q v:=λ W h i s=>(t W h i s).mono λ _ _ ⟨v,e,T⟩=>⟨v,_,e,rfl,T⟩
theorem Tu.qv{f:FuncId}{args:Array Value}{p q:SP}{v:Value}(t:Tu f args p λ v' h=>v'=v/\q h):Tq f args p λ v' q'=>v'=v/\q'=q:=λ W h i s=>(t W h i s).mono λ _ _ ⟨v',e,m,h',i',x,e2,hq⟩=>⟨v',q,e,⟨e2,rfl⟩,m,h',i',x,hq⟩
theorem Bt.call{f:FuncId}{args:Array Value}{p:SP}{R:Value->SP->Prop}(t:Tq f args p R){W w:World}{h:Hl}{l:List SP}{k:SP->List SP}[B:Bt W h l w][m:Foc l p k]:Calls Tryz.prog f args w λ e w'=>∃ v q,e=.returned v/\R v q/\Bt W h (k q) w':=by
 obtain⟨m',h1,j,x,s⟩:=B.t;obtain⟨i,e,hk⟩:=m.e;obtain⟨h0,a,b,c⟩:=s.focus e;refine(t w h0 (j.sub b) a).mono λ e' w' ⟨v,q,ev,r,T⟩=>⟨v,q,ev,r,?_⟩
 rw [hk];exact⟨Zg.after m' x ((T.frame j b).mono λ h' ⟨h1,q1,q2,q3⟩=>c q h1 h' q1 q2 q3)⟩
theorem Tq.of{f:FuncId}{args:Array Value}{p:SP}{R:Value->SP->Prop}(k:∀ W h,Bt W h [p] W->Calls Tryz.prog f args W λ e w'=>∃ v q,e=.returned v/\R v q/\Zg W h q w'):Tq f args p R:=λ W h i s=>k W h (Bt.start s)
theorem Z4{W w:World}{h:Hl}{l:List SP}{G:World->Prop}[B:Bt W h l w](k:∀ w2,Bt W h l w2->G w2):∀ w2,YL w w2->G w2:=λ w2 c=>k w2 (B.cls c)
theorem zp:∀ {l:List (YG × ByteArray)} {F:Nat->Nat->ByteArray} {d a:Nat},(∀ x∈l,¬(x.1.dev.toNat=d/\x.1.at_.toNat=a))->wrc F l d a=F d a
 | [],_,_,_,_=>rfl
 |x::l,F,d,a,h=>by
  show wrc (KE F x.1.dev.toNat x.1.at_.toNat x.2) l d a=F d a;rw [zp λ y hy=>h y (by simp [hy])];have:=h x (by simp);unfold KE;split
  ·rename_i e;unfold Qw;rw [if_neg λ e2=>this ⟨e.symm,e2.symm⟩,e]
  ·rfl
theorem ZfT:∀ {l:List (YG × ByteArray)} {F:Nat->Nat->ByteArray} {k:Nat} {x:YG × ByteArray},l[k]?=some x->(∀ j y,l[j]?=some y->y.1.dev.toNat=x.1.dev.toNat->y.1.at_.toNat=x.1.at_.toNat->j=k)->wrc F l x.1.dev.toNat x.1.at_.toNat=x.2
 | [],_,_,_,h,_=>by simp at h
 |y::l,F,0,x,h,hi=>by
  obtain rfl:y=x:=by simpa using h
  show wrc (KE F y.1.dev.toNat y.1.at_.toNat y.2) l _ _=_
  rw [zp λ z hz e=>by
   obtain⟨j,hj⟩:=List.getElem?_of_mem hz;have:=hi (j+1) z (by simpa using hj) e.1 e.2
   omega]
  simp [KE,Qw]
 |y::l,F,k+1,x,h,hi=>by
  show wrc (KE F y.1.dev.toNat y.1.at_.toNat y.2) l _ _=_;exact ZfT (by simpa using h) λ j z hj e1 e2=>by have:=hi (j+1) z (by simpa using hj) e1 e2;omega
def putAt(s:ZO)(F:Nat->Nat->ByteArray)(g a z:Nat)(t:ByteArray):Nat->Nat->ByteArray:=wrc F ((Zz s g a z).zip (XT (Zz s g a z) (Z6 t z)))
def Uf(s:ZO)(F:Nat->Nat->ByteArray)(g a z:Nat)(t:ByteArray):Prop:=∀(k:Nat)(c:YG)(e:ByteArray),(Zz s g a z)[k]?=some c->(XT (Zz s g a z) (Z6 t z))[k]?=some e->F c.dev.toNat c.at_.toNat=e
theorem Zat{s:ZO}{secs:Int}(h:ZT s secs)(F:Nat->Nat->ByteArray){g a z:Nat}(hg:g<s.len)(hz:1<=z/\z<=4)(t:ByteArray):Uf s (putAt s F g a z t) g a z t:=by
 intro k c e hc he;have hx:((Zz s g a z).zip (XT (Zz s g a z) (Z6 t z)))[k]?=some (c,e):=(List.getElem?_zip_eq_some (z:=(c,e))).2 ⟨hc,he⟩;refine ZfT hx λ j y hj e1 e2=>?_
 obtain⟨h1,_⟩:=(List.getElem?_zip_eq_some (z:=y)).1 hj;have p:=Xl h hg hz h1;have q:=Xl h hg hz hc;have f0:=XA h g (by omega);refine Zgi h hg hz h1 hc ?_ ?_
 ·dsimp only at e1;omega
 ·dsimp only at e2;omega
theorem kV{s:ZO}{secs:Int}(h:ZT s secs){F:Nat->Nat->ByteArray}{g a z g' a' z':Nat}(hg:g<s.len)(hg':g'<s.len)(hz:1<=z/\z<=4)(hz':1<=z'/\z'<=4){t:ByteArray}(t':ByteArray)
  (hap:g=g'->∀ u:Nat,(a<=u/\(u:Int)<a+Xt (s.x g) (s.y g) z)->(a'<=u/\(u:Int)<a'+Xt (s.x g) (s.y g) z')->False) (hh:Uf s F g a z t):Uf s (putAt s F g' a' z' t') g a z t:=by
 intro k c e hc he;rw [<-hh k c e hc he];refine zp λ x hx e2=>?_
 obtain⟨j,hj⟩:=List.getElem?_of_mem hx;obtain⟨h1,_⟩:=(List.getElem?_zip_eq_some (z:=x)).1 hj;have p:=Xl h hg' hz' h1;have q:=Xl h hg hz hc;have f0:=XA h g (by omega);have f1:=XA h g' (by omega);rcases Zcy h hg hg' hz hz' hap hc h1 with h2|h2<;>omega
structure Held(s:ZO)(secs:Int)(F:Nat->Nat->ByteArray)(p:Pt)(t:ByteArray):Prop where
 ok:J9 s secs p
 fit:p.fit
 size:t.size=64*p.size.toNat
 sum:Yh t=p.sum
 at_:Uf s F p.ag.toNat p.aa.toNat p.size.toNat t
def Xy(s:ZO)(p:Pt)(g u:Nat):Prop:=(g=p.ag.toNat/\p.aa.toNat<=u/\(u:Int)<p.aa.toNat+Xu s p.ag p.size)\/p.two=true/\g=p.bg.toNat/\p.ba.toNat<=u/\(u:Int)<p.ba.toNat+Xu s p.bg p.size
structure Xo(s:ZO)(secs:Int)(F:Nat->Nat->ByteArray)(U:Nat->Nat->Prop)(K:KS):Prop where
 held:∀ p t,K p t->Held s secs F p t
 used:∀ p t,K p t->∀ g u,Xy s p g u->U g u
 apart:∀ p q t t',K p t->K q t'->p=q\/∀ g u,Xy s p g u->Xy s q g u->False
theorem J9.in_{s:ZO}{secs:Int}(h:ZT s secs){p:Pt}(o:J9 s secs p):∃ g a z:Nat,p.ag=g/\p.aa=a/\p.size=z/\g<s.len/\(1<=z/\z<=4)/\XG s secs g a z=true:=by
 haveI:Ky s secs:=⟨h⟩
 have hm:=o.a;obtain⟨⟨g0,g1⟩,⟨z0,z1⟩,a0,a1⟩:=Xg hm;obtain⟨g,hg⟩:=Int.eq_ofNat_of_zero_le g0;obtain⟨a,ha⟩:=Int.eq_ofNat_of_zero_le a0;obtain⟨z,hz⟩:=Int.eq_ofNat_of_zero_le (show 0<=p.size by omega);rw [hg,ha,hz]at hm;exact⟨g,a,z,hg,ha,hz,by omega,by omega,hm⟩
theorem ql{s:ZO}{g z:Nat}(hg:g<s.len)(hz:1<=z/\z<=4):Xu s g z=Xt (s.x g) (s.y g) z:=by
 unfold Xu;rw [if_pos ⟨by omega,by omega,by omega,by omega⟩,Int.toNat_natCast]
theorem Xo.put{s:ZO}{secs:Int}(h:ZT s secs){F:Nat->Nat->ByteArray}{U:Nat->Nat->Prop}{K:KS}(k:Xo s secs F U K){g a z:Nat}(hg:g<s.len)(hz:1<=z/\z<=4)(t:ByteArray)
  (hU:∀ u:Nat,a<=u->(u:Int)<a+Xu s g z->¬U g u):Xo s secs (putAt s F g a z t) U K:=by
 refine⟨λ p t' hp=>?_,k.used,k.apart⟩;have hl:=k.held p t' hp;obtain⟨g',a',z',e1,e2,e3,h1,h2,h3⟩:=hl.ok.in_ h;refine⟨hl.ok,hl.fit,hl.size,hl.sum,?_⟩;have ha:=hl.at_;rw [e1,e2,e3,Int.toNat_natCast,Int.toNat_natCast,Int.toNat_natCast]at ha ⊢;refine kV h h1 hg h2 hz t (λ e u hu hu'=>?_) ha;subst e;rw [ql hg hz]at hU;refine hU u hu'.1 hu'.2 (k.used p t' hp _ u (.inl ⟨by rw [e1];rfl,by rw [e2];exact hu.1,?_⟩));rw [e1,e3,ql h1 h2,e2];exact hu.2
theorem Xo.more{s:ZO}{secs:Int}{F:Nat->Nat->ByteArray}{U U':Nat->Nat->Prop}{K:KS}(k:Xo s secs F U K)(h:∀ g u,U g u->U' g u):Xo s secs F U' K:=⟨k.held,λ p t hp g u e=>h g u (k.used p t hp g u e),k.apart⟩
theorem Xo.add{s:ZO}{secs:Int}{F:Nat->Nat->ByteArray}{U:Nat->Nat->Prop}{K:KS}(k:Xo s secs F U K){p:Pt}{t:ByteArray}(hp:Held s secs F p t)(hu:∀ g u,Xy s p g u->U g u)(hq:∀ q u,K q u->∀ g v,Xy s q g v->Xy s p g v->False):Xo s secs F U (K.add p t) :=
 ⟨λ q u h=>by rcases h with h|⟨rfl,rfl⟩;exact k.held _ _ h;exact hp,λ q u h=>by rcases h with h|⟨rfl,rfl⟩;exact k.used _ _ h;exact hu,
  λ q r u v h h'=>by rcases h with h|⟨rfl,rfl⟩<;>rcases h' with h'|⟨rfl,rfl⟩;exact k.apart _ _ _ _ h h';exact .inr (hq _ _ h);exact .inr λ g v a b=>hq _ _ h' g v b a;exact .inl rfl⟩
def entry(D:Nat->Option Nd)(id:Nat):ByteArray:=match D id with
 |some m=>m.bytes
 |none=>⟨#[]⟩
def Dr(K:KS)(n:Nd)(D:Nat->Option Nd):Prop:=∃ g,Ob K n g/\(∀ id j:Nat,id<32->j<128->g (id*128+j)=ZH (entry D id) j)/\∀ id m,D id=some m->Yv m
theorem Dr.mono{K K':KS}{n:Nd}{D:Nat->Option Nd}(h:Dr K n D)(k:K.le K'):Dr K' n D:=by
 obtain⟨g,a,b⟩:=h;exact⟨g,a.mono k,b⟩
theorem Dr.none(K:KS):Dr K Nd.none λ _=>Option.none:=⟨_,Ob.none K,λ id j _ _=>by rw [entry,ZA];exact Nat.zero_le _,λ _ _ h=>by cases h⟩
def qH(D:Nat->Option Nd)(id:Nat):ByteArray:=match D id with
 |some m=>m.bytes
 |none=>Zx 128
theorem Qv{a b:ByteArray}{n:Nat}(ha:a.size=n)(hb:b.size=n)(h:∀ j,j<n->ZH a j=ZH b j):a=b:=by
 rw [Zcl (g:=ZH b) (off:=0) ha (λ j hj=>by rw [h j hj,Nat.zero_add]),<- Zcl (g:=ZH b) (off:=0) hb (λ j hj=>by rw [Nat.zero_add])]
def Yw{α:Type}(D:Nat->α)(k:Nat)(v:α)(j:Nat):α:=if j=k then v else D j
theorem Dr.put{K:KS}{n n':Nd}{D:Nat->Option Nd}{g g':Nat->UInt8}{k:Nat}{s:ByteArray}{m:Option Nd}(hg:∀ id j:Nat,id<32->j<128->g (id*128+j)=ZH (entry D id) j)(hD:∀ id m,D id=some m->Yv m)(o:Ob K n' g')(hs:s.size=128)
  (hw:∀ j,g' j=jD g (k*128) s j) (hm:∀ j,j<128->ZH s j=ZH (match m with|some m=>m.bytes|Option.none=>⟨#[]⟩) j) (hf:∀ x,m=some x->Yv x):Dr K n' (Yw D k m):=by
 refine⟨g',o,λ id j hid hj=>?_,λ id x h=>?_⟩
 ·rw [hw,jD,hs]
  by_cases e:id=k
  ·subst e;rw [if_pos (by omega),show id*128+j-id*128=j by omega,hm j hj];unfold entry Yw;rw [if_pos rfl]
  ·rw [if_neg (by omega),hg id j hid hj];unfold entry Yw;rw [if_neg e]
 ·unfold Yw at h;split at h
  ·exact hf x h
  ·exact hD id x h
def yG(K:KS)(m:Nd)(t:ByteArray):Prop:=∃ g,Ob K m g/\t=txt g 0 m.size.toNat
theorem yG.mono{K K':KS}{n:Nd}{t:ByteArray}(h:yG K n t)(k:K.le K'):yG K' n t:=by
 obtain⟨g,a,b⟩:=h;exact⟨g,a.mono k,b⟩
abbrev Yt:=Nat->Option ByteArray
def jX(K:KS)(n:Nd)(T:Yt):Prop:=∃ D,Dr K n D/\∀ id,id<32->(∀ m,D id=some m->∃ t,T id=some t/\yG K m t)/\(D id=none->T id=none)
theorem jX.mono{K K':KS}{n:Nd}{T:Yt}(h:jX K n T)(k:K.le K'):jX K' n T:=by
 obtain⟨D,a,b⟩:=h;exact⟨D,a.mono k,λ id hid=>⟨λ m hm=>by obtain⟨t,h1,h2⟩:=(b id hid).1 m hm;exact⟨t,h1,h2.mono k⟩,(b id hid).2⟩⟩
theorem jX.none(K:KS):jX K Nd.none λ _=>Option.none:=⟨_,Dr.none K,λ _ _=>⟨λ _ h=>(by cases h),λ _=>rfl⟩⟩
def qE(t:ByteArray)(off:Nat)(s:ByteArray):ByteArray:=txt (jD (ZH t) off s) 0 (max t.size (if s.size=0 then 0 else off+s.size))
def yT(t:ByteArray)(n:Nat):ByteArray:=txt (ZH t) 0 n
theorem Zkn{K:KS}{m:Nd}{g:Nat->UInt8}(o:Ob K m g):ZH (txt g 0 m.size.toNat)=g:=by
 funext j
 by_cases h:j<m.size.toNat
 ·rw [Ja h,Nat.zero_add]
 ·rw [ZA (by rw [YA];omega),o.z j (by have:=o.sz;omega)]
theorem JY{z:Nat}:∀ {l:List Run} {a:Nat},Y3 z l->(∀ r∈l,a<=r.1)->l.length<=z-a
 | [],_,_,_=>Nat.zero_le _
 |r::l,a,h,ha=>by
  have hp:=List.pairwise_cons.1 h.pw;have h1:=JY (l:=l) (a:=r.1+r.2) ⟨hp.2,λ q hq=>h.pos q (by simp [hq])⟩ hp.1;have h2:=h.pos r (by simp);have h3:=ha r (by simp);simp only [List.length_cons];omega
def runC(l:List Run):List (List Value):=l.map λ r=>[.int .i64 (r.1:Int),.int .i64 (r.2:Int)]
theorem QD(l:List Run):(runC l).length=l.length:=by simp [runC]
theorem Kk(l:List Run):∀ x∈runC l,x.length=2:=by
 intro x hx;obtain⟨r,_,rfl⟩:=List.mem_map.1 hx;rfl
theorem QA{l:List Run}{k:Nat}{r:Run}(h:l[k]?=some r):(runC l)[k]?=some [.int .i64 (r.1:Int),.int .i64 (r.2:Int)]:=by simp [runC,h]
theorem KW(l:List Run):∀ x∈runC l,∀ v∈x,v.oneCell'=true:=by
 intro x hx v hv;obtain⟨r,_,rfl⟩:=List.mem_map.1 hx;simp only [List.mem_cons,List.not_mem_nil,or_false]at hv;rcases hv with rfl|rfl<;>rfl
def KC(mb z:Nat)(l:List Run):SP:=λ h=>(Y3 z l/\1<=z/\z<=65536)/\∃ ad n cap,star [Zd mb #[.int .i64 (z:Int),.slice ad n cap] 204,Zw 207 2 ad n cap (runC l)] h
class YD(mb:Nat)(z:outParam Nat)(l:outParam (List Run))(w:World):Prop where
 i:In (KC mb z l) w
instance ZkX(mb z:Nat)(l:List Run)(W:World)(o:Obj)[k:YD mb z l W]:YD mb z l (W.alloc o):=by have:=k.i;exact⟨ii⟩
instance Znr(mb z:Nat)(l:List Run)(W:World)(g:Gr)[k:YD mb z l W]:YD mb z l (gr W g):=by have:=k.i;exact⟨ii⟩
section
variable(mb z:Nat)(l:List Run)(W:World)[D:YD mb z l W]
theorem YF:Y3 z l/\(1<=z/\z<=65536)/\Yc mb W/\∃ ad n cap,W.cell? ⟨mb,0,none⟩=some (.int .i64 (z:Int))/\W.cell? ⟨mb,1,none⟩=some (.slice ad n cap)/\n=l.length/\n<=cap/\n<=65536/\(ad=none->cap=0)/\Zy 2 ad n cap (runC l) W:=by
 obtain⟨h,⟨⟨ok,hz⟩,ad,n,cap,s⟩,hw⟩:=D.i.ex;obtain⟨h1,p1,s1⟩:=s.get (i:=0) rfl;obtain⟨h2,p2,s2⟩:=s.get (i:=1) rfl;haveI:=hw.sub s1;haveI:=hw.sub s2;have hn:n=l.length:=by rw [<-p2.1,QD]
 have:=JY (a:=0) ok (by simp)
 have hc:ad=none->cap=0:=λ e=>by
  rcases p2.2.2 with ⟨_,_,h⟩|⟨g,e2,_⟩
  ·exact h
  ·rw [e]at e2;cases e2
 exact⟨ok,hz,Has.old p1,ad,n,cap,Has.cell p1,Has.cell p1,hn,p2.cap,by omega,hc,p2.rd W⟩
include D in
set_option maxRecDepth 512 in
theorem Zdp(at_ n:Nat)(h1:1<=n)(h2:at_+n<=z):Fn 187 #[.pointer (some ⟨mb,0,none⟩),.int .i64 at_,.int .i64 n] W (.bool true):=by
 refine⟨?_⟩;obtain⟨ok,hz,ho,ad,k,cap,c0,c1,_⟩:=YF mb z l W;have e1:decide ((1:Int)<=n)=true:=by simp;omega
 have e2:decide ((0:Int)<=at_)=true:=by simp
 have e3:decide ((at_:Int)<=(z:Int)-1)=true:=by simp;omega
 have e4:decide ((n:Int)<=(z:Int)-at_)=true:=by simp;omega
 go_in
 go_wp2_with fail;go_ret;exact ZM.mk rfl grown
omit D in
set_option maxRecDepth 512 in
theorem ZeR(b:Nat)(at_:Nat)(r:Run)(W:World)[Yc b W](h1:(r.1:Int)+r.2<=100000)(c0:W.cell? ⟨b,0,none⟩=some (.int .i64 at_)):Calls Tryz.prog 230 #[.agg #[.int .i64 r.1,.int .i64 r.2],.pointer (some ⟨b,0,none⟩)] W (ZM (.bool (decide (at_<r.1+r.2))) W):=by
 have e:decide (at_<r.1+r.2)=decide ((at_:Int)<(r.1:Int)+r.2):=by simp [<-Int.natCast_add]
 rw [e]
 go_in
 go_wp2_with fail;go_ret;exact ZM.mk rfl grown
def Zhz(at_:Nat)(x:List Value):Bool:=match x with
 | [.int .i64 a,.int .i64 b]=>decide ((at_:Int)<a+b)
 |_=>false
omit D in
theorem Zc7(at_:Nat)(r:Run):Zhz at_ [.int .i64 r.1,.int .i64 r.2]=decide (at_<r.1+r.2):=by
 show decide ((at_:Int)<(r.1:Int)+r.2)=_;simp [<-Int.natCast_add]
omit D in
theorem Zj4(at_:Nat)(l:List Run):KJ (Zhz at_) (runC l)=if Z3 l at_<l.length then(Z3 l at_:Int)else -1:=by
 have e:(Zhz at_∘λ r:Run=>[Value.int .i64 r.1,.int .i64 r.2])=λ r=>decide (at_<r.1+r.2):=funext λ r=>Zc7 at_ r
 unfold KJ runC Z3;rw [List.any_map,List.findIdx_map,e]
 by_cases h:l.findIdx (λ r=>decide (at_<r.1+r.2))<l.length
 ·rw [if_pos h,if_pos (List.any_eq_true.2 ⟨_,List.getElem_mem h,List.findIdx_getElem (w:=h)⟩)]
 ·rw [if_neg h,if_neg];intro h2;obtain⟨x,hx,hp⟩:=List.any_eq_true.1 h2;exact h (List.findIdx_lt_length_of_exists ⟨x,hx,hp⟩)
include D in
set_option maxRecDepth 512 in
theorem kI(at_:Nat)(ha:at_<=65536):Fn 188 #[.pointer (some ⟨mb,0,none⟩),.int .i64 at_] W (.int .i64 (Z3 l at_:Nat)):=by
 refine⟨?_⟩;obtain⟨ok,hz,ho,ad,k,cap,c0,c1,hn,hc,h6,_,R⟩:=YF mb z l W;have hle:=qV l at_;subst hn
 have HX:∀(W':World)(b:Nat),[Zy 2 ad l.length cap (runC l) W']->W'.cell? ⟨b,0,none⟩=some (.int .i64 at_)->[Yc b W']->Fn 229 #[.slice ad l.length cap,.func (.func 230) #[] #[.pointer (some ⟨b,0,none⟩)]] W' (.int .i64 (KJ (Zhz at_) (runC l))):=λ W' b _ c0 _=>ZoP ad l.length cap (runC l) W' (by omega) _ (by kernel_rfl) _ (Zhz at_) (λ x hx g=>by
  obtain⟨r,hr,rfl⟩:=List.mem_map.1 hx;rw [Zc7];have:=ok.pos r hr
  exact ZeR b at_ r (gr W' g) (by omega) (by rw [Z7];exact c0)) (Kk l)
 rw [Zj4]at HX
 go_in
 by_cases h:Z3 l at_<l.length
 ·rw [if_pos h]at HX;go_wp2_with fail;refine @Fn.go _ _ _ _ _ (HX _ _ (by simp [go_sem])) λ g=>?_
  dsimp only;go_wp2_with fail;go_ret;exact ZM.mk rfl grown
 ·rw [if_neg h]at HX;obtain hle:Z3 l at_=l.length:=by omega
  rw [hle];go_wp2_with fail;refine @Fn.go _ _ _ _ _ (HX _ _ (by simp [go_sem])) λ g=>?_
  dsimp only;go_wp2_with fail;go_ret;exact ZM.mk rfl grown
end
theorem ZiZ(n:Nat)(h1:1<=n)(h2:n<=1000000)(W:World):Calls Tryz.prog 231 #[.slice none 0 0,.int .i64 n] W λ e w'=>∃ g cap,e=.returned (.slice (some ⟨g,0,none⟩) 0 cap)/\ZC 207 2 (some ⟨g,0,none⟩) 0 cap [] w' W:=by
 obtain⟨i,hi,hz,hs,hb⟩:∃ i,Tryz.prog.info? 207=some i/\i.zero=some (.agg #[.int .i64 0,.int .i64 0])/\i.size=2/\i.bytes=16:=by
  have:(Tryz.prog.info? 207).map (λ i=>(i.zero,i.size,i.bytes))=some (some (.agg #[.int .i64 0,.int .i64 0]),2,16):=by kernel_rfl
  cases hq:Tryz.prog.info? 207 with
  |none=>rw [hq]at this;cases this
  |some ii =>
   rw [hq]at this;simp only [Option.map_some,Option.some.injEq,Prod.mk.injEq]at this;exact⟨ii,rfl,this.1,this.2.1,this.2.2⟩
 have hr:=λ(w:World) ty=>Lib.run_append_nil_zeros (P:=Tryz.prog) w 202 3 ty 207 i _ .i64 .i64 Tryz.underlying202 Tryz.underlying3 hi hz n (by omega) (by omega) (by omega) (by rw [hb];omega)
 have e1:decide ((n:Int)<0)=false:=decide_eq_false (by omega);have e2:decide ((0:Int)<n)=true:=decide_eq_true (by omega)
 go_in
 go_wp2_with(at_builtin;refine ZP rfl _ _ _ _ rfl _ _ rfl rfl (hr _ _) ?_);go_ret;refine⟨_,_,rfl,⟨by simp,.inr ⟨W.heap.size,_,_,rfl,Nat.le_refl _,heap_alloc_new _ _,Nat.zero_le _,grownCap_le_maxLen _ _ _ _ (by unfold maxLen;omega),?_,by simp⟩⟩,Zf (Z5 (Below.refl _ _).drew _)⟩;have:=grownCap_ge W n 0 207;simp [Builtin.zeroCells,Value.cells];omega
class jb(cs:Array Value)(z:outParam Nat):Prop where
 h:cs.size=z
instance(p:Pt):jb p.cs 12:=⟨rfl⟩
instance(n:Nd):jb n.cs 13:=⟨rfl⟩
instance(l:Nat->Pt):jb (YN l) 48:=⟨JW l⟩
instance(a0 a1 a2 a3 a4 a5 a6 a7 a8 a9 a10 a11:Value):jb #[a0,a1,a2,a3,a4,a5,a6,a7,a8,a9,a10,a11] 12:=⟨rfl⟩
instance(a0 a1 a2 a3 a4 a5 a6 a7 a8 a9 a10 a11 a12:Value):jb #[a0,a1,a2,a3,a4,a5,a6,a7,a8,a9,a10,a11,a12] 13:=⟨rfl⟩
instance:jb #[.int .i64 0,.int .i64 0,.int .i64 0,.int .i64 0,.bool false,.int .i64 0,.int .i64 0,.int .i64 0,.int .u64 0,.int .u64 0,.int .u64 0,.int .u64 0,.int .i64 0,.int .i64 0,.int .i64 0,.int .i64 0,.bool false,.int .i64 0,.int .i64 0,.int .i64 0,.int .u64 0,.int .u64 0,.int .u64 0,.int .u64 0,.int .i64 0,.int .i64 0,.int .i64 0,.int .i64 0,.bool false,.int .i64 0,.int .i64 0,.int .i64 0,.int .u64 0,.int .u64 0,.int .u64 0,.int .u64 0,.int .i64 0,.int .i64 0,.int .i64 0,.int .i64 0,.bool false,.int .i64 0,.int .i64 0,.int .i64 0,.int .u64 0,.int .u64 0,.int .u64 0,.int .u64 0] 48:=⟨rfl⟩
instance(priority:=low) ZpW(W:World)(b z:Nat)(cs:Array Value)[k:Zh W b cs][a:jb cs z]:ZJ b 0 cs z W:=⟨a.h,k.old,λ j v e=>by
 rw [Nat.zero_add,YO,<- Array.getElem?_toList];exact e⟩
theorem V8(W:World)(b:Nat)(l:Nat->Pt)(k:Nat)(hk:k<4)[c:Zh W b (YN l)]:ZJ b (12*k) (l k).cs 12 W:=⟨rfl,c.old,λ j v e=>by
 rw [YO];exact Ub l k hk j v e⟩
instance(priority:=low) ZnI(W:World)(b:Nat)(l:Nat->Pt)[c:Zh W b (YN l)]:ZJ b 0 (l 0).cs 12 W:=V8 W b l 0 (by omega)
instance(priority:=low) Znc(W:World)(b:Nat)(l:Nat->Pt)[c:Zh W b (YN l)]:ZJ b 12 (l 1).cs 12 W:=V8 W b l 1 (by omega)
instance(priority:=low) Znm(W:World)(b:Nat)(l:Nat->Pt)[c:Zh W b (YN l)]:ZJ b 24 (l 2).cs 12 W:=V8 W b l 2 (by omega)
instance(priority:=low) ZnV(W:World)(b:Nat)(l:Nat->Pt)[c:Zh W b (YN l)]:ZJ b 36 (l 3).cs 12 W:=V8 W b l 3 (by omega)
instance(priority:=low) ZpF(W:World)(b z:Nat)(cs:Array Value)[k:Zh W b cs][a:jb cs z]:Row b z W:=by
 obtain⟨t,e⟩:=k.get;exact⟨k.old,cs,t,a.h,e⟩
def Zek:TypeDesc->Bool
 | .struct _ | .array _ _=>true
 |_=>false
theorem Zt{fn:Func}{p u:Tmp}{ty:TypeId}{z:Nat}(h:fn.results=#[.cell p ty,.tmp u])(tmps:Array Value)(w:World)(b:Nat)(cs:Array Value)(hp:tmps.getD p undef=.pointer (some ⟨b,0,none⟩))(hs:ZJ b 0 cs z w){d:TypeDesc}
  (hu:Tryz.prog.underlying ty=some d) (hd:Zek d=true) (hi:(Tryz.prog.info? ty).map (·.size)=some z):(results fn tmps).run Tryz.prog w=.ok (.tuple #[.agg cs,tmps.getD u undef]) w:=by
 rw [results_cell_tmp h,hp];simp only [asAddr,Sem.run_pure,Result.andThen_ok]
 have hl:(loadVar ty ⟨b,0,none⟩).run Tryz.prog w=.ok (.agg cs) w:=by
  cases d<;>first|exact Ys (P:=Tryz.prog) w b 0 z cs ty _ hu rfl hi|cases hd
 rw [hl];rfl
theorem Z2{ops:Array Oper}{rest:List Oper}{Q:Exit->Act->World->Prop}{a:Act}{w:World}{d:Option Tmp}{ty:TypeId}{pos:String}{aft:Array Edge}{gd:Nat × Bool}{t:TypeId}{x:Operand}{b o z:Nat}{cs:Array Value}[k:XF t z]
  (hw:Region.wanted { dst:=d,op:=.load t x,type:=ty,pos:=pos,after:=aft,guard:=some gd } (yielded ops a.tmps)=true) (hx:a.eval x=.pointer (some ⟨b,o,none⟩)) (hs:ZJ b o cs z w) (h:wpList Tryz.prog ops Q rest (a.put d (.agg cs)) w) :
  wpList Tryz.prog ops Q ({ dst:=d,op:=.load t x,type:=ty,pos:=pos,after:=aft,guard:=some gd }::rest) a w:=by
 unfold wpList;rw [if_pos hw];left;unfold Oper.wp
 have hr:(execOp a.eval { dst:=d,op:=.load t x,type:=ty,pos:=pos,after:=aft,guard:=some gd }).run Tryz.prog w=.ok (.value (.agg cs)) w:=by
  simp only [execOp,hx,Sem.run_bind,k.run w b o cs hs,Result.andThen_ok,Sem.run_pure]
 rw [hr];exact h
structure VT(st:Nat)(S:KS->Nat->SP):Prop where
 get:∀ K c p t,K p t->Tq 319 #[.pointer (some ⟨st,0,none⟩),.agg p.cs] (S K c) λ v q=>v=.tuple #[.string t,.int .i64 0]/\q=S K c
 put:∀ K c t (lv:Nat),1<=c->lv<=3->t.size≠0->t.size%64=0->t.size<=256->Tq 320 #[.pointer (some ⟨st,0,none⟩),.string t,.int .i64 lv] (S K c) λ v q =>
  (∃ e:Int,e≠0/\v=.tuple #[.agg Pt.none.cs,.int .i64 e]/\q=S K (c-1))\/∃ p:Pt,v=.tuple #[.agg p.cs,.int .i64 0]/\(p.isNone=false/\p.level=lv)/\q=S (K.add p t) (c-1)
 less:∀ K c c',c'<=c->∀ h,S K c h->S K c' h
 sub:∀ K K' c,K.le K'->∀ h,S K' c h->S K c h
 fit:∀ K c h p t,S K c h->K p t->Zgo p
abbrev Jv(st:Nat):Value:=.iface 110 (.pointer (some ⟨st,0,none⟩))
def itV(t:ByteArray):Value:=if t.size=0 then .iface 288 (.agg #[])else .iface 316 (.agg #[.string t])
def ZkK(l:Nat->Pt):Value:=.iface 291 (.agg (YN l))
@[go_sem ↓] theorem Zqm (v:Value) (xT:TypeId) (w:World):(Instr.typeAssert (.iface 291 v) xT 291 true).run Tryz.prog w=.ok (.tuple #[v,.bool true]) w:=by kernel_rfl
@[go_sem ↓] theorem ZqB (v:Value) (xT:TypeId) (w:World):(Instr.typeAssert (.iface 288 v) xT 288 true).run Tryz.prog w=.ok (.tuple #[v,.bool true]) w:=by kernel_rfl
@[go_sem ↓] theorem ZpQ (v:Value) (xT:TypeId) (w:World):(Instr.typeAssert (.iface 288 v) xT 291 true).run Tryz.prog w=.ok (.tuple #[.agg (YN Y9),.bool false]) w:=by kernel_rfl
@[go_sem ↓] theorem Zp2 (v:Value) (xT:TypeId) (w:World):(Instr.typeAssert (.iface 316 v) xT 291 true).run Tryz.prog w=.ok (.tuple #[.agg (YN Y9),.bool false]) w:=by kernel_rfl
set_option maxRecDepth 512 in
theorem KZ(x:Int)(n:Nat)(hx:x=(n:Int)+1)(hn:n<=3)(W:World):Fn 192 #[.int .i64 x] W (.int .i64 (bl n:Nat)):=by
 refine⟨?_⟩;subst hx;have e:((n:Int)+1-1)=n:=by omega
 go_in
 go_wp2_with fail
 go_loopw [3,6] (λ m i wr=>∃ k:Nat,k<=n/\i=.int .i64 k/\m=.int .i64 (bl k:Nat)/\wr=W)
  (λ _ i _=>n-(intOf i).toNat)
 case atStart=>exact⟨0,Nat.zero_le _,rfl,rfl,rfl⟩
 case round =>
  obtain⟨k,hk,rfl,rfl,rfl⟩:=hrel;have hb:bl k<=64:=ye (show k<=3 by omega)
  by_cases hlt:k<n
  ·go_wp2_with fail;exact⟨⟨k+1,hlt,by go_num,by simp only [bl];go_num,by first|rfl|trivial⟩,by simp [intOf];omega⟩
  ·obtain rfl:n=k:=by omega
   go_wp2_with fail;go_ret;exact ZM.mk rfl grown
section
variable{st:Nat}{S:KS->Nat->SP}(T:VT st S)(K:KS)(c:Nat)
include T
theorem UR:Tq 194 #[Jv st,.agg Pt.none.cs] (S K c) λ v q=>v=.tuple #[itV ⟨#[]⟩,.int .i64 0]/\q=S K c:=by
 refine Tq.of λ W h B=>?_
 go_in
 go_wp2_with(first|(with_reducible refine Fn.go λ g=>?_)|((with_reducible apply Za);(·exact rfl);(·exact ii)));go_ret2;exact⟨_,_,rfl,⟨rfl,rfl⟩,Bt.fin⟩
theorem Zff(p:Pt)(t:ByteArray)(hp:p.isNone=false)(hl:p.level=0)(hK:K p t)(h0:t.size≠0)(h4:t.size%64=0)(h2:t.size<=256):Tq 194 #[Jv st,.agg p.cs] (S K c) λ v q=>v=.tuple #[itV t,.int .i64 0]/\q=S K c:=by
 refine Tq.of λ W h B=>?_
 have G:=T.get K c p t hK;have R0:∀ W,Fn 233 #[.string t,.int .i64 p.level] W (.tuple #[.iface 316 (.agg #[.string t]),.int .i64 0]):=by rw [hl];exact Zl0 t h0 h4 h2
 have hv:itV t=.iface 316 (.agg #[.string t]):=if_neg h0;rw [hv];clear hl hv
 go_in
 go_wp2_with(first|(with_reducible refine Fn.go λ g=>?_)|((with_reducible apply Za);(·exact rfl);(·exact ii)));refine(Bt.call (G)).mono ?_;rintro e w1 ⟨v,q,rfl,⟨rfl,rfl⟩,B1⟩;dsimp only at B1 ⊢;go_wp2_with(with_reducible refine Fn.go λ g=>?_);go_ret2;exact⟨_,_,rfl,⟨rfl,rfl⟩,Bt.fin⟩
theorem Zcq(p:Pt)(l:Nat->Pt)[Qi l](n:Nat)(hp:p.isNone=false)(hl:p.level=(n:Int)+1)(hn:n<3)(hK:K p (QI l)):Tq 194 #[Jv st,.agg p.cs] (S K c) λ v q=>v=.tuple #[ZkK l,.int .i64 0]/\q=S K c:=by
 refine Tq.of λ W h B=>?_
 have G:=T.get K c p _ hK;have R0:∀ W,Fn 233 #[.string (QI l),.int .i64 p.level] W (.tuple #[.iface 291 (.agg (YN l)),.int .i64 0]):=Zm5 l p.level (by omega) (by omega);unfold ZkK;clear hl
 go_in
 go_wp2_with(first|(with_reducible refine Fn.go λ g=>?_)|((with_reducible apply Za);(·exact rfl);(·exact ii)));refine(Bt.call (G)).mono ?_;rintro e w1 ⟨v,q,rfl,⟨rfl,rfl⟩,B1⟩;dsimp only at B1 ⊢;go_wp2_with(with_reducible refine Fn.go λ g=>?_);go_ret2;exact⟨_,_,rfl,⟨rfl,rfl⟩,Bt.fin⟩
theorem zh{n:Nat}{p:Pt}{g:Nat->UInt8}(t:Tr K (n+1) p g)(hn:n<3):Tq 215 #[Jv st,.agg p.cs] (S K c) λ v q=>∃ l:Nat->Pt,(v=.tuple #[.agg (YN l),.int .i64 0]/\q=S K c)/\Qi l/\((p.isNone=true->l=Y9)/\(p.isNone=false->K p (QI l)))/\∀ k,k<4->Tr K n (l k) λ j=>g (span n*k+j):=by
 obtain⟨l,hf,hl,ht⟩:=t.links;have hv:=t.lv;refine Tq.of λ W h B=>?_
 rcases hl with ⟨rfl,rfl⟩|⟨hp,hK⟩
 ·have G:=UR T K c;have hiv:itV ⟨#[]⟩=.iface 288 (.agg #[]):=rfl;rw [hiv]at G
  go_in
  go_wp2_with((with_reducible apply Za);(·exact rfl);(·exact ii));refine(Bt.call (G)).mono ?_;rintro e w1 ⟨v,q,rfl,⟨rfl,rfl⟩,B1⟩;dsimp only at B1 ⊢;go_wp2_with(with_reducible apply Zj)
  (refine bodyPost_ret (Zt (z:=48) rfl _ _ _ _ rfl inferInstance Tryz.underlying265 rfl (by kernel_rfl)) rfl ?_)
  exact⟨_,_,rfl,⟨Y9,⟨rfl,rfl⟩,hf,⟨λ _=>rfl,λ h=>by rw [Pt.none_isNone]at h;cases h⟩,ht⟩,Bt.fin⟩
 ·have hl:p.level=(n:Int)+1:=by
   rcases hv with rfl|h
   ·rw [Pt.none_isNone]at hp;cases hp
   ·exact h.2.1
  have G:=Zcq T K c p l n hp hl hn hK;unfold ZkK at G
  go_in
  go_wp2_with((with_reducible apply Za);(·exact rfl);(·exact ii));refine(Bt.call (G)).mono ?_;rintro e w1 ⟨v,q,rfl,⟨rfl,rfl⟩,B1⟩;dsimp only at B1 ⊢;go_wp2_with((with_reducible apply Za);(·exact rfl);(·exact ii))
  (refine bodyPost_ret (Zt (z:=48) rfl _ _ _ _ rfl inferInstance Tryz.underlying265 rfl (by kernel_rfl)) rfl ?_)
  exact⟨_,_,rfl,⟨l,⟨rfl,rfl⟩,hf,⟨(λ h=>by rw [hp]at h;cases h),λ _=>hK⟩,ht⟩,Bt.fin⟩
end
theorem YQ{fn:Func}{p u:Tmp}(h:fn.results=#[.cell p 50,.tmp u])(tmps:Array Value)(w:World)(b:Nat)(cs:Array Value)(hp:tmps.getD p undef=.pointer (some ⟨b,0,none⟩))(hs:ZJ b 0 cs 12 w):(results fn tmps).run Tryz.prog w=.ok (.tuple #[.agg cs,tmps.getD u undef]) w:=Zt h tmps w b cs hp hs Tryz.underlying50 rfl (by kernel_rfl)
theorem YR{fn:Func}{p u:Tmp}(h:fn.results=#[.cell p 52,.tmp u])(tmps:Array Value)(w:World)(b:Nat)(cs:Array Value)(hp:tmps.getD p undef=.pointer (some ⟨b,0,none⟩))(hs:ZJ b 0 cs 13 w):(results fn tmps).run Tryz.prog w=.ok (.tuple #[.agg cs,tmps.getD u undef]) w:=Zt h tmps w b cs hp hs Tryz.underlying52 rfl (by kernel_rfl)
theorem Jt{k n j:Nat}(h:k/bl n=j):(k:Int).tdiv (bl n:Nat)=j:=by rw [<-h];exact(Int.natCast_ediv k (bl n)).symm▸Int.tdiv_eq_ediv_of_nonneg (by omega)
theorem Zdd(k n:Nat):(k:Int).tmod (bl n:Nat)=(k%bl n:Nat):=by rw [Int.natCast_emod];exact Int.tmod_eq_emod_of_nonneg (by omega)
theorem four{k n:Nat}(hn:n<3)(hk:k<bl (n+1)):k/bl n=0\/k/bl n=1\/k/bl n=2\/k/bl n=3:=by
 match n,hn with
 |0,_=>simp only [bl]at *;omega
 |1,_=>simp only [bl]at *;omega
 |2,_=>simp only [bl]at *;omega
theorem jS{n k j:Nat}(h:k/bl n=j)(i:Nat):span n*j+(256*(k%bl n)+i)=256*k+i:=by
 have:=Nat.div_add_mod k (bl n);rw [h]at this;unfold span;rw [Nat.mul_assoc];omega
structure ObW(K:KS)(n:Nd)(g:Nat->UInt8):Prop where
 sz:0<=n.size/\n.size<=16384
 tr:Tr K (zN n.size).toNat n.root g
 z:∀ j:Nat,span (zN n.size).toNat<=j->g j=0
section
variable{st:Nat}{S:KS->Nat->SP}(T:VT st S)(K:KS)(c:Nat)
include T
theorem Zds{n0:Nat}{p0:Pt}{g0:Nat->UInt8}{i0:Nat}(t0:Tr K n0 p0 g0)(hn0:n0<=3)(hi0:i0<bl n0):Tq 193 #[Jv st,.agg p0.cs,.int .i64 n0,.int .i64 i0] (S K c) λ v q=>∃(p:Pt)(g:Nat->UInt8),(v=.tuple #[.agg p.cs,.int .i64 0]/\q=S K c)/\Tr K 0 p g/\∀ j,j<256->g j=g0 (256*i0+j):=by
 refine Tq.of λ W h B=>?_
 go_in
 go_wp2_with fail
 go_loopw [2,3] (λ lv i wr=>∃(n k:Nat)(p:Pt)(g:Nat->UInt8),n<=3/\k<bl n/\lv=.int .i64 n/\i=.int .i64 k/\Tr K n p g/\(∀ j,j<256->g (256*k+j)=g0 (256*i0+j))/\Bt W h [Zd (W.heap.size+1) Pt.none.cs 50,Zd W.heap.size p.cs 50,S K c] wr)
  (λ lv _ _=>(intOf lv).toNat)
 case atStart=>exact⟨n0,i0,p0,g0,hn0,hi0,rfl,rfl,t0,λ _ _=>rfl,ii⟩
 case round =>
  clear B;obtain⟨n,k,p,gg,hn,hk,rfl,rfl,t,hg,B⟩:=hrel;rcases n with _|n
  ·obtain rfl:k=0:=by simp only [bl]at hk;omega
   have Hg:=Lib.hid hg;clear hg;go_wp2_with((with_reducible apply Za);(·exact rfl);(·exact ii))
   (refine bodyPost_ret (YQ rfl _ _ _ _ rfl ii) rfl ?_)
   exact⟨_,_,rfl,⟨p,gg,⟨rfl,rfl⟩,t,λ j hj=>by rw [<-Hg.out j hj,Nat.mul_zero,Nat.zero_add]⟩,Bt.fin⟩
  ·cases hp:p.isNone
   ·have L:=zh T K c t (by omega);have Hp:=Lib.hid hp;have Hg:=Lib.hid hg;have HN:∀ w,Fn 169 #[.agg p.cs] w (.bool false):=λ w=>by have e:=Y4 p w;rw [hp]at e;exact e
    have BL:=KZ ((n:Int)+1) n rfl (by omega);clear hp hg;go_wp2_with(first|(with_reducible refine Fn.go λ g=>?_)|((with_reducible apply Za);(·exact rfl);(·exact ii))|((with_reducible apply Z2);(·exact rfl);(·exact rfl);(·exact ii)));refine(Bt.call L).mono ?_;rintro e w1 ⟨v,q,rfl,⟨l,⟨rfl,rfl⟩,hf,_,hl⟩,B1⟩;dsimp only at B1 ⊢;go_wp2_with fail;have hm:=Zdd k n;have hbp:=Uc n;have hbl:bl n<=16:=ye (show n<=2 by omega);have hkb:k<64:=Nat.lt_of_lt_of_le hk (ye (show n+1<=3 by omega));rcases four (show n<3 by omega) hk with hj|hj|hj|hj
    ·have hd:=Jt hj;have Hj:=Lib.hid hj;clear hj;refine plZ (.q [0,1,2,3,4,5,7,8] (.f [6,9] (.x [10] (.q [11] .d)))) ?_;simp only [Zk.run,pick,gZ,gS,gA,gN]
     (repeat(first|((with_reducible apply Zc);(·exact rfl);(·rintro _ ⟨gq,rfl⟩;exact ii);go_frame)|go_big_quiet_step (exact qZ)));refine nZ ?_
     (repeat(first|((with_reducible apply Zc);(·exact rfl);(·rintro _ ⟨gq,rfl⟩;exact ii);go_frame)|go_big_quiet_step (exact qZ)));refine nZ ?_
     refine Z4 ?_;intro w2 B2;go_wp2_with fail;dsimp only [Nx];(repeat go_big_quiet_step (exact qZ));refine nZ ?_;(first|(rintro w3 hw3;have B3:=Ze hw3;clear hw3)|rintro g3);go_wp2_with fail;exact⟨⟨n,k%bl n,l 0,_,by omega,Nat.mod_lt _ hbp,by go_num,rfl,hl 0 (by omega),λ i hi=>by rw [<-Hg.out i hi];exact congrArg gg (jS Hj.out i),B3.drop⟩,by simp [intOf]⟩
    ·have hd:=Jt hj;have Hj:=Lib.hid hj;clear hj;refine plZ (.q [0,1,2,3,4,5,7,8] (.f [6,9] (.x [10] (.q [11] .d)))) ?_;simp only [Zk.run,pick,gZ,gS,gA,gN]
     (repeat(first|((with_reducible apply Zc);(·exact rfl);(·rintro _ ⟨gq,rfl⟩;exact ii);go_frame)|go_big_quiet_step (exact qZ)));refine nZ ?_
     (repeat(first|((with_reducible apply Zc);(·exact rfl);(·rintro _ ⟨gq,rfl⟩;exact ii);go_frame)|go_big_quiet_step (exact qZ)));refine nZ ?_
     refine Z4 ?_;intro w2 B2;go_wp2_with fail;dsimp only [Nx];(repeat go_big_quiet_step (exact qZ));refine nZ ?_;(first|(rintro w3 hw3;have B3:=Ze hw3;clear hw3)|rintro g3);go_wp2_with fail;exact⟨⟨n,k%bl n,l 1,_,by omega,Nat.mod_lt _ hbp,by go_num,rfl,hl 1 (by omega),λ i hi=>by rw [<-Hg.out i hi];exact congrArg gg (jS Hj.out i),B3.drop⟩,by simp [intOf]⟩
    ·have hd:=Jt hj;have Hj:=Lib.hid hj;clear hj;refine plZ (.q [0,1,2,3,4,5,7,8] (.f [6,9] (.x [10] (.q [11] .d)))) ?_;simp only [Zk.run,pick,gZ,gS,gA,gN]
     (repeat(first|((with_reducible apply Zc);(·exact rfl);(·rintro _ ⟨gq,rfl⟩;exact ii);go_frame)|go_big_quiet_step (exact qZ)));refine nZ ?_
     (repeat(first|((with_reducible apply Zc);(·exact rfl);(·rintro _ ⟨gq,rfl⟩;exact ii);go_frame)|go_big_quiet_step (exact qZ)));refine nZ ?_
     refine Z4 ?_;intro w2 B2;go_wp2_with fail;dsimp only [Nx];(repeat go_big_quiet_step (exact qZ));refine nZ ?_;(first|(rintro w3 hw3;have B3:=Ze hw3;clear hw3)|rintro g3);go_wp2_with fail;exact⟨⟨n,k%bl n,l 2,_,by omega,Nat.mod_lt _ hbp,by go_num,rfl,hl 2 (by omega),λ i hi=>by rw [<-Hg.out i hi];exact congrArg gg (jS Hj.out i),B3.drop⟩,by simp [intOf]⟩
    ·have hd:=Jt hj;have Hj:=Lib.hid hj;clear hj;refine plZ (.q [0,1,2,3,4,5,7,8] (.f [6,9] (.x [10] (.q [11] .d)))) ?_;simp only [Zk.run,pick,gZ,gS,gA,gN]
     (repeat(first|((with_reducible apply Zc);(·exact rfl);(·rintro _ ⟨gq,rfl⟩;exact ii);go_frame)|go_big_quiet_step (exact qZ)));refine nZ ?_
     (repeat(first|((with_reducible apply Zc);(·exact rfl);(·rintro _ ⟨gq,rfl⟩;exact ii);go_frame)|go_big_quiet_step (exact qZ)));refine nZ ?_
     refine Z4 ?_;intro w2 B2;go_wp2_with fail;dsimp only [Nx];(repeat go_big_quiet_step (exact qZ));refine nZ ?_;(first|(rintro w3 hw3;have B3:=Ze hw3;clear hw3)|rintro g3);go_wp2_with fail;exact⟨⟨n,k%bl n,l 3,_,by omega,Nat.mod_lt _ hbp,by go_num,rfl,hl 3 (by omega),λ i hi=>by rw [<-Hg.out i hi];exact congrArg gg (jS Hj.out i),B3.drop⟩,by simp [intOf]⟩
   ·obtain rfl:=(Pt.isNone_iff p).1 hp;have Hg:=Lib.hid hg;have hz:=t.zeros;have Hz:=Lib.hid hz;clear hg hp hz;go_wp2_with(first|(with_reducible refine Fn.go λ g=>?_)|((with_reducible apply Za);(·exact rfl);(·exact ii))|((with_reducible apply Z2);(·exact rfl);(·exact rfl);(·exact ii)))
    (refine bodyPost_ret (YQ rfl _ _ _ _ rfl ii) rfl ?_)
    exact⟨_,_,rfl,⟨Pt.none,λ j=>gg (256*k+j),⟨rfl,rfl⟩,Tr.zero K λ j hj=>Hz.out _ (by have hj:j<256:=hj;unfold span;omega),λ j hj=>Hg.out j hj⟩,Bt.fin⟩
theorem Zbu{p:Pt}{g:Nat->UInt8}(t:Tr K 0 p g):Tq 194 #[Jv st,.agg p.cs] (S K c) λ v q=>∃ s:ByteArray,(v=.tuple #[itV s,.int .i64 0]/\q=S K c)/\(s.size%64=0/\s.size<=256)/\∀ j,j<256->g j=ZH s j:=by
 rcases t with ⟨rfl,hz⟩|⟨hp,hl,s,hK,⟨h0,h4,h2⟩,hg⟩
 ·exact(UR T K c).mono λ v q h=>⟨q,⟨⟨#[]⟩,h,⟨rfl,by decide⟩,λ j hj=>by rw [hz j hj,ZA (Nat.zero_le _)]⟩,λ _ h=>h⟩
 ·exact(Zff T K c p s hp hl hK h0 h4 h2).mono λ v q h=>⟨q,⟨s,h,⟨h4,h2⟩,hg⟩,λ _ h=>h⟩
theorem Zbg{n:Nd}{gg:Nat->UInt8}{i:Nat}(o:ObW K n gg)(hi:i<64):Tq 137 #[Jv st,.agg n.cs,.int .i64 i] (S K c) λ v q=>∃ s:ByteArray,(v=.tuple #[itV s,.int .i64 0]/\q=S K c)/\(s.size%64=0/\s.size<=256)/\∀ j,j<256->gg (256*i+j)=ZH s j:=by
 obtain⟨⟨z0,z1⟩,t,hz⟩:=o;obtain⟨l0,l1⟩:=Ks n.size;have hsp:=JV z1;obtain⟨m,hm⟩:=Int.eq_ofNat_of_zero_le l0;rw [hm,Int.toNat_natCast]at t hsp hz;have Hm:=Lib.hid hm;have HV:∀ w,Fn 161 #[.int .i64 n.size] w (.int .i64 m):=λ w=>by have e:=Jc n.size w;rw [hm]at e;exact e
 have BL:=KZ ((m:Int)+1) m rfl (by omega);have e1:decide ((i:Int)<0)=false:=decide_eq_false (by omega);have e2:decide ((64:Int)<=i)=false:=decide_eq_false (by omega);refine Tq.of λ W h B=>?_
 have hm3:m<=3:=by omega
 rcases Nat.lt_or_ge m 3 with h3|h3
 ·have e3:(m:Int)<3:=by omega
  rcases Nat.lt_or_ge i (bl m)with h5|h5
  ·have L:=Zds T K c t hm3 h5;have h6:¬ bl m<=i:=by omega
   clear hm hz hsp l0 l1
   go_in
   go_wp2_with(first|(with_reducible refine Fn.go λ g=>?_)|((with_reducible apply Za);(·exact rfl);(·exact ii)));refine(Bt.call L).mono ?_;rintro e w1 ⟨v,q,rfl,⟨p,g',⟨rfl,rfl⟩,tp,hg⟩,B1⟩;dsimp only at B1 ⊢;go_wp2_with((with_reducible apply Za);(·exact rfl);(·exact ii));refine(Bt.call (Zbu T K c tp)).mono ?_;rintro e w2 ⟨v,q,rfl,⟨s,⟨rfl,rfl⟩,h4,hs⟩,B2⟩;dsimp only at B2 ⊢;have fs:∀ j,j<256->gg (256*i+j)=ZH s j:=λ j hj=>by rw [<-hg j hj,hs j hj]
   have Fs:=Lib.hid fs;have H4:=Lib.hid h4;clear hg hs fs h4
   by_cases h0:s.size=0
   ·have e0:itV s=.iface 288 (.agg #[]):=if_pos h0;rw [e0];have E0:=Lib.hid e0;clear e0 h0;go_wp2_with fail;go_ret2;exact⟨_,_,rfl,⟨s,⟨by rw [E0.out];rfl,rfl⟩,H4.out,Fs.out⟩,Bt.fin⟩
   ·have e0:itV s=.iface 316 (.agg #[.string s]):=if_neg h0;rw [e0];have E0:=Lib.hid e0;clear e0 h0;go_wp2_with fail;go_ret2;exact⟨_,_,rfl,⟨s,⟨by rw [E0.out];rfl,rfl⟩,H4.out,Fs.out⟩,Bt.fin⟩
  ·have Hz:=Lib.hid hz;have Hs:=Lib.hid hsp;have H5:=Lib.hid h5;clear hm hz hsp l0 l1
   go_in
   go_wp2_with(with_reducible refine Fn.go λ g=>?_);go_ret2;exact⟨_,_,rfl,⟨⟨#[]⟩,⟨rfl,rfl⟩,⟨rfl,by decide⟩,λ j hj=>by rw [Hz.out _ (by have:=H5.out;unfold span at *;omega),ZA (Nat.zero_le _)]⟩,Bt.fin⟩
 ·obtain rfl:m=3:=by omega
  have L:=Zds T K c t hm3 hi;clear hm hz hsp l0 l1
  go_in
  go_wp2_with(first|(with_reducible refine Fn.go λ g=>?_)|((with_reducible apply Za);(·exact rfl);(·exact ii)));refine(Bt.call L).mono ?_;rintro e w1 ⟨v,q,rfl,⟨p,g',⟨rfl,rfl⟩,tp,hg⟩,B1⟩;dsimp only at B1 ⊢;go_wp2_with((with_reducible apply Za);(·exact rfl);(·exact ii));refine(Bt.call (Zbu T K c tp)).mono ?_;rintro e w2 ⟨v,q,rfl,⟨s,⟨rfl,rfl⟩,h4,hs⟩,B2⟩;dsimp only at B2 ⊢;have fs:∀ j,j<256->gg (256*i+j)=ZH s j:=λ j hj=>by rw [<-hg j hj,hs j hj]
  have Fs:=Lib.hid fs;have H4:=Lib.hid h4;clear hg hs fs h4
  by_cases h0:s.size=0
  ·have e0:itV s=.iface 288 (.agg #[]):=if_pos h0;rw [e0];have E0:=Lib.hid e0;clear e0 h0;go_wp2_with fail;go_ret2;exact⟨_,_,rfl,⟨s,⟨by rw [E0.out];rfl,rfl⟩,H4.out,Fs.out⟩,Bt.fin⟩
  ·have e0:itV s=.iface 316 (.agg #[.string s]):=if_neg h0;rw [e0];have E0:=Lib.hid e0;clear e0 h0;go_wp2_with fail;go_ret2;exact⟨_,_,rfl,⟨s,⟨by rw [E0.out];rfl,rfl⟩,H4.out,Fs.out⟩,Bt.fin⟩
theorem Zbe{n:Nd}{gg:Nat->UInt8}{i:Nat}(o:Ob K n gg)(hi:i<64):Tq 137 #[Jv st,.agg n.cs,.int .i64 i] (S K c) λ v q=>∃ s:ByteArray,(v=.tuple #[itV s,.int .i64 0]/\q=S K c)/\(s.size%64=0/\s.size<=256)/\∀ j,j<256->gg (256*i+j)=ZH s j :=
 Zbg T K c ⟨o.sz,o.tr,λ j hj=>o.z j (by have:=JV o.sz.2;omega)⟩ hi
end
end Go.Proofs.YtlfjdjndhcmliaaGreatDoor
