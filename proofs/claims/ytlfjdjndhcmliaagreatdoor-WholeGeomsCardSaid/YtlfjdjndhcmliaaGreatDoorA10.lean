/- WholeGeoms, part 10. -/
import Derived.Test.YtlfjdjndhcmliaaGreatDoorA06
import Derived.Test.YtlfjdjndhcmliaaGreatDoorA07
import Derived.Test.YtlfjdjndhcmliaaGreatDoorA09
import Derived.Test.YtlfjdjndhcmliaaGreatDoorA08
import Derived.Test.YtlfjdjndhcmliaaGreatDoorA05
import Derived.Lib.AppendZerosOnto
set_option maxRecDepth 100000
set_option maxHeartbeats 4000000
set_option linter.all false
namespace Go.Proofs.YtlfjdjndhcmliaaGreatDoor
open Go.RowKit Go.Sort
def SlP (t:TypeId) (z:Nat) (ad:Option Addr) (n cap:Nat) (L:List (List Value)):SP:=λ h=>L.length=n/\(∀ x∈L,x.length=z)/\((ad=none/\n=0/\cap=0)\/∃ g,ad=some ⟨g,0,none⟩/\cap<=maxLen/\RwP t z g cap L h)
theorem SlP.nil (t:TypeId) (z:Nat) (h:Hl):SlP t z none 0 0 [] h:=⟨rfl,by simp,.inl ⟨rfl,rfl,rfl⟩⟩
theorem SlP.own {t:TypeId} {z:Nat} {ad:Option Addr} {n cap:Nat} {L:List (List Value)} {h:Hl} (p:SlP t z ad n cap L h) (W:World) [hw:Has W h]:W.ownsRow 0 t z (.slice ad n cap) n L.flatten:=by
 obtain ⟨p1,p2,p3⟩:=p
 refine ⟨by rw [flat_len p2,p1],?_⟩
 rcases p3 with ⟨rfl,rfl,rfl⟩ | ⟨g,rfl,h2,cur,r1,r2,r3,r4,r5⟩
 ·exact .inl ⟨rfl,rfl⟩
 ·exact .inr ⟨g,cap,cur,rfl,Nat.zero_le _,hw.get _ _ r1,by omega,h2,r2,by rw [<-r3,p1]⟩
theorem SlP.rd {t:TypeId} {z:Nat} {ad:Option Addr} {n cap:Nat} {L:List (List Value)} {h:Hl} (p:SlP t z ad n cap L h) (W:World) [Has W h]:RdS z ad n cap L W:=by
 obtain ⟨p1,p2,p3⟩:=p
 rcases p3 with ⟨rfl,rfl,rfl⟩ | ⟨g,rfl,h2,r⟩
 ·obtain rfl:L=[]:=List.length_eq_zero_iff.1 p1
  exact ⟨rfl,λ k x hx=>by simp at hx⟩
 ·exact r.rd p1 W
theorem SlP.cap {t:TypeId} {z:Nat} {ad:Option Addr} {n cap:Nat} {L:List (List Value)} {h:Hl} (p:SlP t z ad n cap L h):n<=cap:=by
 obtain ⟨p1,p2,p3⟩:=p
 rcases p3 with ⟨rfl,rfl,rfl⟩ | ⟨g,rfl,h2,cur,r1,r2,r3,r4,r5⟩ <;> omega
theorem OwnS.slP {e:TypeId} {z:Nat} {ad:Option Addr} {n cap:Nat} {L:List (List Value)} {W W1:World} (o:OwnS e z ad n cap L.flatten W W1) (hl:L.length=n) (hz:∀ x∈L,x.length=z):∃ hp:Hl,Has W hp/\SlP e z ad n cap L hp/\OutB W1.heap.size hp:=by
 rcases o.own.2 with ⟨h1,h0⟩ | ⟨g,cap',cur,e1,hb,hg,hle,hmx,hs,ht⟩
 ·injection h1 with h1 _ h2
  exact ⟨λ _=>Option.none,⟨λ k o e=>by cases e⟩,⟨hl,hz,.inl ⟨h1,h0,h2⟩⟩,⟨λ _ _=>rfl⟩⟩
 ·injection e1 with e1 e2 e3
  subst e1 e3
  obtain ⟨hp,a,b,c⟩:=own_heap o hl hz
  exact ⟨hp,a,⟨hl,hz,.inr ⟨g,rfl,hmx,b⟩⟩,c⟩
theorem slP_app1 {ts e:TypeId} {z by_:Nat} [k:ElT ts e z by_] {h:Hl} {ad:Option Addr} {n cap b:Nat} {L:List (List Value)} {l:List Value} (p:SlP e z ad n cap L h) (W:World) [hw:Has W h] (hc:CellsAt b l W) (hl:l.length=z) (h1:OneC l) (hn:n<=1000000000000) (hb:by_<=136) :
  ∃ g' cap' W',(∀ ty,(Builtin.append_ #[ts,ts] ty #[.slice ad n cap,.slice (some ⟨b,0,none⟩) 1 1]).run Tryz.prog W=.ok (.slice (some ⟨g',0,none⟩) (n+1) cap') W')/\Turns W h (SlP e z (some ⟨g',0,none⟩) (n+1) cap' (L++[l])) W':=by
 obtain ⟨i,zr,hi,hz0,hz1,hz2,hz3⟩:=ElT.el (ts:=ts) (e:=e) (z:=z) (by_:=by_)
 have ksl:=ElT.sl (ts:=ts) (e:=e) (z:=z) (by_:=by_)
 have kpos:=ElT.pos (ts:=ts) (e:=e) (z:=z) (by_:=by_)
 have hown:=p.own W
 obtain ⟨p1,p2,p3⟩:=p
 obtain ⟨v',W',hrun,hown',hgr,hnil,hloc⟩:=run_append_own_at (P:=Tryz.prog) W 0 ts ts e i zr z by_ ksl hi hz0 hz1 hz2 hz3 kpos _ n _ hown ⟨b,0,none⟩ 1 1 l (by omega)
  (λ j u hj=>by rw [addr_add];simpa using hc.cell j u hj) h1.h (by unfold maxLen;omega) (by have:=Nat.mul_le_mul (show n+1<=1000000000001 by omega) hb;omega) (Nat.zero_le _)
 rcases hown'.2 with ⟨_,h0⟩ | ⟨b',c',cur',rfl,_,hb',hle',hmx',hs',ht'⟩
 ·omega
 have hloc:b'=W.heap.size\/∃ g,ad=some ⟨g,0,none⟩/\b'=g/\h g≠none:=by
  rcases hloc with e1 | e1
  ·right
   rcases p3 with ⟨rfl,rfl,rfl⟩ | ⟨g,rfl,h2,cur,r1,_⟩
   ·cases e1
   ·exact ⟨g,rfl,(by simpa [Value.ownBlock] using e1),by rw [r1];simp⟩
  ·left;injection e1
 refine ⟨b',c',W',λ ty=>hrun,⟨hgr.os,hgr.tape,hgr.output,hgr.size,λ m hm e1=>hgr.block m hm λ e2=>?_⟩,λ m=>if m=b' then some (.cells cur' e) else none,⟨λ m o e1=>?_⟩,λ m hm e1=>?_,by simp [p1],?_,.inr ⟨b',rfl,hmx',cur',if_pos rfl,hs',?_,?_,?_⟩⟩
 ·rcases p3 with ⟨rfl,rfl,rfl⟩ | ⟨g,rfl,h2,cur,r1,_⟩
  ·cases e2
  ·injection e2 with e2;rw [e2,r1] at e1;cases e1
 ·by_cases hm:m=b'
  ·subst hm;rw [if_pos rfl] at e1;cases e1;exact hb'
  ·rw [if_neg hm] at e1;cases e1
 ·refine if_neg ?_
  rintro rfl
  rcases hloc with h2 | ⟨g,_,rfl,h2⟩
  ·omega
  ·exact h2 e1
 ·intro x hx
  rcases List.mem_append.1 hx with hx | hx
  ·exact p2 x hx
  ·rw [List.mem_singleton] at hx;rw [hx];exact hl
 ·rw [show (L++[l]).length=n+1 by simp [p1],ht'];simp
 ·intro x hx
  rcases List.mem_append.1 hx with hx | hx
  ·exact p2 x hx
  ·rw [List.mem_singleton] at hx;rw [hx];exact hl
 ·simp [p1];omega
def BlkP (b:Nat) (cs:Array Value) (t:TypeId):SP:=λ h=>h b=some (.cells cs t)
def Emp:SP:=λ _=>True
def one (b:Nat) (o:Obj):Hl:=λ m=>if m=b then some o else none
theorem one_same (b:Nat) (o:Obj):one b o b=some o:=if_pos rfl
def Hl.or (h h':Hl):Hl:=λ m=>match h m with
 | some o=>some o
 | none=>h' m
theorem Hl.or_left {h h':Hl} {m:Nat} {o:Obj} (e:h m=some o):h.or h' m=some o:=by simp [Hl.or,e]
theorem Hl.or_right {h h':Hl} {m:Nat} (e:h m=none):h.or h' m=h' m:=by simp [Hl.or,e]
theorem star.cons {l:List SP} {h h':Hl} {p:SP} (s:star l h) (q:p h') (a:Apart h h'):star (p::l) (h.or h') :=
 ⟨h',h,q,s,(λ n o e=>by
  rcases a n with h1 | h1
  ·rw [Hl.or_right h1];exact e
  ·rw [h1] at e;cases e),(λ n o e=>Hl.or_left e),a.symm⟩
theorem Has.or {W:World} {h h':Hl} (i:Has W h) (j:Has W h'):Has W (h.or h'):=⟨λ n o e=>by
 unfold Hl.or at e
 split at e
 ·rename_i h1;cases e;exact i.get n _ h1
 ·exact j.get n o e⟩
theorem apart_of {h h':Hl} {N:Nat} (a:∀ n,N<=n->h n=none) (b:OutB N h'):Apart h h':=λ n=>by
 rcases Nat.lt_or_ge n N with h1 | h1
 ·exact .inr (b.out n h1)
 ·exact .inl (a n h1)
structure Built (W1:World) (l:List SP) (w:World):Prop where
 g:∃ g,w=gr W1 g
 ex:∃ h,star l h/\Has w h/\OutB W1.heap.size h
theorem Built.nil (W:World):Built W [] W:=⟨ex_gr W,λ _=>none,trivial,⟨λ n o e=>by cases e⟩,⟨λ _ _=>rfl⟩⟩
theorem Built.gr {W1 w:World} {l:List SP} (b:Built W1 l w) (g:Gr):Built W1 l (gr w g):=by
 obtain ⟨⟨g1,e⟩,h,a,i,o⟩:=b
 exact ⟨⟨_,by rw [e,gr_gr]⟩,h,a,ii,o⟩
theorem Built.size {W1 w:World} {l:List SP} (b:Built W1 l w):W1.heap.size<=w.heap.size:=by
 obtain ⟨g,rfl⟩:=b.g
 rw [gr_size];omega
theorem Built.alloc {W1 w:World} {l:List SP} (b:Built W1 l w) (o:Obj):Built W1 l (w.alloc o):=by
 obtain ⟨⟨g1,e⟩,h,a,i,q⟩:=b
 exact ⟨⟨_,by rw [e,gr_alloc]⟩,h,a,ii,q⟩
theorem Built.push {W1 w:World} {l:List SP} (b:Built W1 l w) {p:SP} (o:Obj) (hp:p (one w.heap.size o)):Built W1 (p::l) (w.alloc o):=by
 have hs:=b.size
 obtain ⟨⟨g1,e⟩,h,a,i,q⟩:=b
 have ou:OutB w.heap.size (one w.heap.size o):=⟨λ k hk=>if_neg (by omega)⟩
 have j:Has (w.alloc o) (one w.heap.size o):=⟨λ n o' e=>by
  unfold one at e
  split at e
  ·rename_i h1;subst h1;cases e;exact heap_alloc_new ..
  ·cases e⟩
 refine ⟨⟨_,by rw [e,gr_alloc]⟩,_,a.cons hp (apart_of (λ n hn=>i.none hn) ou),Has.or ii j,⟨λ k hk=>?_⟩⟩
 rw [Hl.or_right (q.out k hk)]
 exact if_neg (by omega)
theorem Built.join {W1 w w':World} {l:List SP} {p:SP} (b:Built W1 l w) (hg:∃ g,w'=Go.Proofs.YtlfjdjndhcmliaaGreatDoor.gr w g) (c:∃ h,p h/\Has w' h/\OutB w.heap.size h):Built W1 (p::l) w':=by
 have hs:=b.size
 obtain ⟨⟨g1,e⟩,h,a,i,q⟩:=b
 obtain ⟨g,rfl⟩:=hg
 obtain ⟨h',hp,j,o⟩:=c
 refine ⟨⟨_,by rw [e,gr_gr]⟩,_,a.cons hp (apart_of (λ n hn=>i.none hn) o),Has.or ii j,⟨λ k hk=>?_⟩⟩
 rw [Hl.or_right (q.out k hk)]
 exact o.out k (Nat.lt_of_lt_of_le hk hs)
theorem Built.turns {W1 w:World} {l:List SP} (b:Built W1 l w) {h0:Hl} (i0:Has W1 h0):Turns W1 h0 (star l) w:=by
 obtain ⟨⟨g1,rfl⟩,h,a,i,q⟩:=b
 exact ⟨Mod.gr (Mod.refl _ _) g1,h,i,λ n hn _=>q.out n hn,a⟩
theorem star.perm:∀ {l l':List SP},l.Perm l'->∀ {h:Hl},star l h->star l' h:=λ p=>by
 induction p with
 | nil=>exact λ s=>s
 | cons x _ ih=>exact λ ⟨h1,h2,a,b,c,d,e⟩=>⟨h1,h2,a,ih b,c,d,e⟩
 | swap x y l =>
  intro h ⟨h1,h2,a,⟨h3,h4,a2,b2,c2,d2,e2⟩,c,d,e⟩
  refine ⟨h3,h1.or h4,a2,?_,c2.trans d,λ n o q=>?_,λ n=>?_⟩
  ·refine ⟨h1,h4,a,b2,λ n o q=>Hl.or_left q,λ n o q=>?_,λ n=>?_⟩
   ·rcases e n with e1 | e1
    ·rw [Hl.or_right e1];exact q
    ·rw [d2 n o q] at e1;cases e1
   ·rcases e n with e1 | e1
    ·exact .inl e1
    ·exact .inr (d2.none e1)
  ·unfold Hl.or at q
   split at q
   ·rename_i h5;cases q;exact c n _ h5
   ·exact d n o (d2 n o q)
  ·rcases e2 n with e1 | e1
   ·exact .inl e1
   ·rcases e n with e3 | e3
    ·exact .inr (by rw [Hl.or_right e3];exact e1)
    ·exact .inl (c2.none e3)
 | trans _ _ ih1 ih2=>exact λ s=>ih2 (ih1 s)
theorem Built.perm {W1 w:World} {l l':List SP} (b:Built W1 l w) (p:l.Perm l'):Built W1 l' w:=by
 obtain ⟨g,h,a,i,q⟩:=b
 exact ⟨g,h,a.perm p,i,q⟩
theorem BlkP.set {b:Nat} {cs:Array Value} {t:TypeId} {h:Hl} (p:BlkP b cs t h) (k:Nat) (v:Value) (w:World) [i:Has w h]:Turns w h (BlkP b (cs.setIfInBounds k v) t) (w.setCell ⟨b,k,none⟩ v):=by
 obtain ⟨c,e,i2,x⟩:=set_in w h b k v cs t p
 exact ⟨(Mod.refl h w).setCell (.inr (by rw [show h b=_ from p];simp)) v,_,by rw [e];infer_instance,λ n hn e2=>x.out n hn e2,Hl.put_same ..⟩
theorem Built.turn {W1 w w':World} {l:List SP} {i:Nat} {p q:SP} (b:Built W1 l w) (e:l[i]?=some p) (k:∀ h,p h->Has w h->Turns w h q w'):Built W1 (l.set i q) w':=by
 have hs:=b.size
 obtain ⟨⟨g1,rfl⟩,h,a,j,o⟩:=b
 obtain ⟨m,h',i',x,p'⟩:=Turns.focus j a e k
 refine ⟨gr_of_below ⟨m.os,m.tape,m.output,Nat.le_trans hs m.size,λ n hn=>?_⟩,h',p',i',⟨λ n hn=>x n (Nat.lt_of_lt_of_le hn hs) (o.out n hn)⟩⟩
 rw [m.block n (Nat.lt_of_lt_of_le hn hs) (o.out n hn),gr_heap _ _ hn]
theorem Built.set {W1 w:World} {l:List SP} {i b:Nat} {cs:Array Value} {t:TypeId} (B:Built W1 l w) (e:l[i]?=some (BlkP b cs t)) (k:Nat) (v:Value):Built W1 (l.set i (BlkP b (cs.setIfInBounds k v) t)) (w.setCell ⟨b,k,none⟩ v) :=
 B.turn e λ h p i=>p.set k v w
theorem star.cells {w:World} {l:List SP} {h:Hl} (s:star l h) [i:Has w h] {j b:Nat} {cs:Array Value} {t:TypeId} (e:l[j]?=some (BlkP b cs t)):CellsIn w b cs:=by
 obtain ⟨h0,p,s0⟩:=s.get e
 exact ⟨t,i.get _ _ (s0 _ _ p)⟩
theorem Built.cells {W1 w:World} {l:List SP} (B:Built W1 l w) {j b:Nat} {cs:Array Value} {t:TypeId} (e:l[j]?=some (BlkP b cs t)):CellsIn w b cs:=by
 obtain ⟨_,h,a,i,_⟩:=B
 exact a.cells e
theorem Built.cls {W1 w w':World} {l:List SP} (B:Built W1 l w) (c:Cls w w'):Built W1 l w':=by
 obtain ⟨g,rfl⟩:=c
 exact B.gr g
theorem star.snoc:∀ {l:List SP} {h:Hl} {p:SP},star l h->p (λ _=>none)->star (l++[p]) h
 | [],_,_,_,hp=>⟨λ _=>none,λ _=>none,hp,trivial,(λ n o e=>by cases e),(λ n o e=>by cases e),λ n=>Or.inl rfl⟩
 | q::l,h,p,⟨h1,h2,a,b,c,d,e⟩,hp=>⟨h1,h2,a,star.snoc b hp,c,d,e⟩
theorem Built.more {W1 w:World} {l:List SP} {p:SP} (B:Built W1 l w) (hp:p λ _=>none):Built W1 (l++[p]) w:=by
 obtain ⟨g,h,a,i,o⟩:=B
 exact ⟨g,h,a.snoc hp,i,o⟩
theorem Turns.new {w w':World} {h:Hl} {P:SP} (e:∀ n,h n=none) (t:Turns w h P w'):(∃ g,w'=Go.Proofs.YtlfjdjndhcmliaaGreatDoor.gr w g)/\∃ h',P h'/\Has w' h'/\OutB w.heap.size h':=by
 obtain ⟨m,h1,i,x,p⟩:=t
 exact ⟨gr_of_below ⟨m.os,m.tape,m.output,m.size,λ k hk=>m.block k hk (e k)⟩,h1,p,i,⟨λ k hk=>x k hk (e k)⟩⟩
theorem Built.turned {W1 w':World} {g:Gr} {l:List SP} {h:Hl} (o:OutB W1.heap.size h) (t:Turns (Go.Proofs.YtlfjdjndhcmliaaGreatDoor.gr W1 g) h (star l) w'):Built W1 l w':=by
 have hs:W1.heap.size<=(Go.Proofs.YtlfjdjndhcmliaaGreatDoor.gr W1 g).heap.size:=by rw [gr_size];omega
 obtain ⟨m,h',i',x,p'⟩:=t
 refine ⟨gr_of_below ⟨m.os,m.tape,m.output,Nat.le_trans hs m.size,λ n hn=>?_⟩,h',p',i',⟨λ n hn=>x n (Nat.lt_of_lt_of_le hn hs) (o.out n hn)⟩⟩
 rw [m.block n (Nat.lt_of_lt_of_le hn hs) (o.out n hn),gr_heap _ _ hn]
theorem Built.call {W1 w:World} {l:List SP} (B:Built W1 l w) {f:FuncId} {args:Array Value} {p:SP} {q:Value->SP} {i:Nat} (t:Tu f args p q) (e:l[i]?=some p):Calls Tryz.prog f args w λ e w'=>∃ v,e=.returned v/\Built W1 (l.set i (q v)) w':=by
 have hs:=B.size
 obtain ⟨⟨g1,rfl⟩,h,a,j,o⟩:=B
 refine (t.at_ e _ h j a).mono λ e w' ⟨v,e1,m,h',i',x,p'⟩=>⟨v,e1,gr_of_below ⟨m.os,m.tape,m.output,Nat.le_trans hs m.size,λ n hn=>?_⟩,h',p',i',⟨λ n hn=>x n (Nat.lt_of_lt_of_le hn hs) (o.out n hn)⟩⟩
 rw [m.block n (Nat.lt_of_lt_of_le hn hs) (o.out n hn),gr_heap _ _ hn]
theorem Built.calln {W1 w:World} {l:List SP} (B:Built W1 l w) {f:FuncId} {args:Array Value} {q:Value->SP} (t:Tu f args (λ _=>True) q):Calls Tryz.prog f args w λ e w'=>∃ v,e=.returned v/\Built W1 (q v::l) w' :=
 (t w (λ _=>none) ⟨λ n o e=>by cases e⟩ trivial).mono λ e w' ⟨v,e1,T⟩=>⟨v,e1,B.join (Turns.new (λ _=>rfl) T).1 (Turns.new (λ _=>rfl) T).2⟩
theorem Built.exs {W1 w:World} {l:List SP} {r:Nat->Prop} {P:Nat->SP} (B:Built W1 ((λ h=>∃ d,r d/\P d h)::l) w):∃ d,r d/\Built W1 (P d::l) w:=by
 obtain ⟨g,h,⟨h1,h2,⟨d,a,b⟩,c⟩,i,o⟩:=B
 exact ⟨d,a,g,h,⟨h1,h2,b,c⟩,i,o⟩
theorem Built.drop {W1 w:World} {l:List SP} {p:SP} (B:Built W1 (p::l) w):Built W1 l w:=by
 obtain ⟨g,h,⟨h1,h2,a,b,c,d,e⟩,i,o⟩:=B
 exact ⟨g,h,b.sub d,i,o⟩
theorem sub_cells {w:World} {b z:Nat} {cs:Array Value} (hz:cs.size=z) [k:CellsIn w b cs]:SubAt b 0 cs z w:=⟨hz,k.old,λ j v e=>by
 rw [Nat.zero_add,cell_in,<- Array.getElem?_toList];exact e⟩
theorem results_sub {fn:Func} {p u:Tmp} {ty:TypeId} {z:Nat} (h:fn.results=#[.cell p ty,.tmp u]) (tmps:Array Value) (w:World) (b:Nat) (cs:Array Value) {d:_} (hp:tmps.getD p undef=.pointer (some ⟨b,0,none⟩)) (hs:SubAt b 0 cs z w)
  (hu:Tryz.prog.underlying ty=some (.struct d)) (hi:(Tryz.prog.info? ty).map (·.size)=some z):(results fn tmps).run Tryz.prog w=.ok (.tuple #[.agg cs,tmps.getD u undef]) w:=by
 rw [results_cell_tmp h,hp]
 simp only [asAddr,Sem.run_pure,Result.andThen_ok]
 rw [run_loadVarSub (P:=Tryz.prog) w b 0 z cs ty _ hu rfl hi]
 rfl
section
variable {ops:Array Oper} {rest:List Oper} {Q:Exit->Act->World->Prop} {a:Act} {w:World} {d:Option Tmp} {pos:String} {aft:Array Edge}
theorem wpList_appB {ts e:TypeId} {z by_:Nat} [k:ElT ts e z by_] {x y:Operand} {W1:World} {l:List SP} {i:Nat} {ad:Option Addr} {n cap b:Nat} {L:List (List Value)} {v:List Value} (B:Built W1 l w) (he:l[i]?=some (SlP e z ad n cap L)) (hx:a.eval x=.slice ad n cap) (hy:a.eval y=.slice (some ⟨b,0,none⟩) 1 1)
  (hc:CellsAt b v w) (h1:OneC v) (hl:v.length=z) (hb:by_<=136) (hn:n<=1000000000000)
  (h:∀ g' cap' w',Built W1 (l.set i (SlP e z (some ⟨g',0,none⟩) (n+1) cap' (L++[v]))) w'->wpList Tryz.prog ops Q rest (a.put d (.slice (some ⟨g',0,none⟩) (n+1) cap')) w') :
  wpList Tryz.prog ops Q ({ dst:=d,op:=.call { callee:=.builtin .append,args:=#[x,y],argTypes:=#[ts,ts] },type:=ts,pos:=pos,after:=aft,guard:=none }::rest) a w:=by
 have hs:=B.size
 obtain ⟨⟨g1,rfl⟩,hp,st,j,o⟩:=B
 obtain ⟨h0,p0,s0,cc⟩:=st.focus he
 haveI:=j.sub s0
 obtain ⟨g',cap',W',hr,T⟩:=slP_app1 (ts:=ts) p0 (Go.Proofs.YtlfjdjndhcmliaaGreatDoor.gr W1 g1) hc hl h1 hn hb
 refine wpList_append_run rfl _ _ _ _ rfl _ _ hx hy (hr _) (h g' cap' W' ?_)
 exact Built.turned o ((T.frame j s0).mono λ h' ⟨h1,q1,q2,q3⟩=>cc _ h1 h' q1 q2 q3)
end
end Go.Proofs.YtlfjdjndhcmliaaGreatDoor
namespace Go.Proofs.YtlfjdjndhcmliaaGreatDoor
open Go.RowKit Go.Sort
open Go.Maps Go.ChangeMaps
def grpL (s:Slc):List (List Value):=(List.range s.len).map λ k=>[.int .i64 (s.x k),.int .i64 (s.y k)]
theorem GM.rd {s:Slc} {W:World} (m:GM s W):RdS 2 s.ad s.len s.cap (grpL s) W:=⟨by simp [grpL],λ k x hx=>by
 have hk:k < s.len:=by have:=(List.getElem?_eq_some_iff.1 hx).1;simpa [grpL] using this
 simp only [grpL,List.getElem?_map,List.getElem?_range hk,Option.map_some,Option.some.injEq] at hx
 subst hx
 refine ⟨s.blk,s.off,m.addr k hk,⟨m.old k hk⟩,λ j v hj=>?_⟩
 match j,hj with
 | 0,hj=>cases hj;exact m.c0 k hk
 | 1,hj=>cases hj;exact m.c1 k hk
 | j+2,hj=>simp at hj⟩
def Slc.at_ (s:Slc) (g cap:Nat):Slc:=⟨some ⟨g,0,none⟩,g,0,s.len,cap,s.x,s.y⟩
theorem gmp_of {s:Slc} {g cap:Nat} {h:Hl} (r:RwP 67 2 g cap (grpL s) h):GMP (s.at_ g cap) h:=by
 obtain ⟨cur,r1,r2,r3,r4,r5⟩:=r
 refine ⟨rfl,cur,_,r1,λ k hk=>?_⟩
 have hk:k < s.len:=hk
 have hl:(grpL s).length=s.len:=by simp [grpL]
 have e:∀ j:Nat,j < 2->cur[k*2+j]?=([Value.int .i64 (s.x k),.int .i64 (s.y k)])[j]?:=λ j hj=>by
  have h2:=flat_at (grpL s) 2 k j [.int .i64 (s.x k),.int .i64 (s.y k)] r4 (by simp [grpL,hk]) hj
  rw [<-r3,hl,List.getElem?_take_of_lt (by omega),Array.getElem?_toList] at h2
  exact h2
 exact ⟨by have:=e 0 (by omega);simpa [Slc.at_] using this,by have:=e 1 (by omega);simpa [Slc.at_] using this⟩
instance elZB:ElZ 29 4 (.bool false):=elZ_of Tryz.underlying29 (b:=1) (by kernel_rfl) (by omega) rfl
instance elTD:ElT 28 60 1 8:=elT_of Tryz.underlying28 (by kernel_rfl) (by omega)
theorem Built.set4 {W w:World} {l:List SP} {x:Nat} {z0 z1 z2 z3 a b c d:Value} {t:TypeId} (B:Built W (BlkP x #[z0,z1,z2,z3] t::l) w):Built W (BlkP x #[a,b,c,d] t::l) ((((w.setCell ⟨x,0,none⟩ a).setCell ⟨x,1,none⟩ b).setCell ⟨x,2,none⟩ c).setCell ⟨x,3,none⟩ d) :=
 (((B.set (i:=0) rfl 0 a).set (i:=0) rfl 1 b).set (i:=0) rfl 2 c).set (i:=0) rfl 3 d
theorem row_built {W w w1:World} {l:List SP} {e:TypeId} {ab n cap:Nat} {xs:List Value} (B:Built W l w1) (o:OwnS e 1 (some ⟨ab,0,none⟩) n cap xs w w1):Built W (RowP ab xs::l) w:=B.join o.grw (by
 have o2:OwnS e 1 (some ⟨ab,0,none⟩) n cap (xs.map λ v=>[v]).flatten w w1:=by
  have:(xs.map λ v=>[v]).flatten=xs:=by clear o;induction xs <;> simp_all
  rw [this];exact o
 obtain ⟨hp,a,⟨cur,r1,r2,r3,r4,r5⟩,q⟩:=own_heap o2 (by have:=o.own.1;simp at this ⊢;exact this) (by simp)
 refine ⟨hp,⟨cur,e,r1,λ k v hk=>?_⟩,a,q⟩
 have hf:(xs.map λ v=>[v]).flatten=xs:=by
  clear o o2 r3 r4 r5 hk
  induction xs <;> simp_all
 rw [hf] at r3
 have hl:=(List.getElem?_eq_some_iff.1 hk).1
 rw [<-r3,List.getElem?_take_of_lt (by simpa using hl),Array.getElem?_toList] at hk
 exact hk)
theorem sumW_at (s:Slc) (g c:Nat):∀ k,sumW (s.at_ g c) k=sumW s k
 | 0=>rfl
 | k+1=>by simp only [sumW,sumW_at s g c k];rfl
theorem slP_row {t:TypeId} {lb n cap:Nat} {ds:List Nat} {h:Hl} (p:SlP t 1 (some ⟨lb,0,none⟩) n cap (ds.map λ d=>[.pointer (some ⟨d,0,none⟩)]) h):RowP lb (ptrL ds) h:=by
 rcases p.2.2 with ⟨h0,_⟩ | ⟨g,e,_,cur,r1,r2,r3,r4,r5⟩
 ·cases h0
 ·cases e
  refine ⟨cur,t,r1,λ k v hk=>?_⟩
  have hf:(ds.map λ d=>[Value.pointer (some ⟨d,0,none⟩)]).flatten=ptrL ds:=by
   clear r3 r4 r5 hk p
   induction ds <;> simp_all [ptrL]
  rw [hf] at r3
  have hl:=(List.getElem?_eq_some_iff.1 hk).1
  rw [<-r3,List.getElem?_take_of_lt (by simpa [ptrL] using hl),Array.getElem?_toList] at hk
  exact hk
theorem vnew_at (s:Slc) (secs:Nat) [gk:Geo s secs] (b:UInt8) (W:World) [gm:GM s W] (hb:(s.blk < W.heap.size)) :
  Calls Tryz.prog 43 #[.agg #[.slice s.ad s.len s.cap,.int .i64 secs],.int .u8 b.toNat] W λ e w' =>
   ∃ (V:VD),e=.returned (.tuple #[V.v,.int .i64 0])/\V.secs=secs/\(∃ g cap,V.s=s.at_ g cap)/\Turns W (λ _=>none) (DevsP V 0 λ _ _=>blankS b) w':=by
 have hgood:=gk.h
 obtain ⟨n,hn⟩:∃ n:Nat,sumW s s.len=n:=Int.eq_ofNat_of_zero_le (by have:=sumW_le hgood s.len (Nat.le_refl _);omega)
 have hn100:n<=100:=by have:=sumW_le hgood s.len (Nat.le_refl _);have:=hgood.2.1;omega
 have DV:∀ W':World,[GM s W']->Fn 42 #[.agg #[.slice s.ad s.len s.cap,.int .i64 secs]] W' (.int .i64 n):=λ W' _=>by rw [<-hn];infer_instance
 have CL:∀ W',GM s W'->_:=λ W' m=>by
  haveI:=GM.rd m
  exact clnG s.ad s.len s.cap (grpL s) W' (by have:=hgood.2.1;omega) (by simp [grpL]) (by simp [grpL,Value.oneCell']) (λ e=>by rw [m.addr 0 (by have:=hgood.1;omega)] at e;cases e)
 have J1:∀ {l:List SP} {w1 w2:World} {g2 cap':Nat},GM s w1->Built W l w1->OwnS 67 2 (some ⟨g2,0,none⟩) s.len cap' (grpL s).flatten w2 w1->Built W (GMP (s.at_ g2 cap')::l) w2/\GM s w2:=λ {l w1 w2 g2 cap'} m b o=>⟨b.join o.grw (by
  obtain ⟨hp,a,r,q⟩:=own_heap o (by simp [grpL]) (by simp [grpL])
  exact ⟨hp,gmp_of r,a,q⟩),by obtain ⟨g,rfl⟩:=o.grw;infer_instance⟩
 go_enter Tryz.func43,Tryz.ntmps43
 go_upto_region 3 with (with_reducible refine Fn.go λ g=>?_)
 have B0:∀ g:Gr,Built W [BlkP (W.heap.size+1) #[.slice none 0 0,.int .i64 0,.slice none 0 0,.slice none 0 0] 31,BlkP W.heap.size #[.slice s.ad s.len s.cap,.int .i64 secs] 24] (gr ((W.alloc (.cells #[.slice s.ad s.len s.cap,.int .i64 secs] 24)).alloc (.cells #[.slice none 0 0,.int .i64 0,.slice none 0 0,.slice none 0 0] 31)) g):=λ g =>
  (((Built.nil W).push _ (one_same _ _)).push _ (by rw [World.size_alloc];exact one_same _ _)).gr g
 go_cut [6] (λ y wx=>∃ x g2 cap2 ab,y=.pointer (some ⟨x,0,none⟩)/\Built W [BlkP x #[.slice (some ⟨g2,0,none⟩) s.len cap2,.int .i64 secs,.slice none 0 0,.slice (some ⟨ab,0,none⟩) n n] 31,GMP (s.at_ g2 cap2),RowP ab (List.replicate n (.bool false)),BlkP (W.heap.size+1) #[.slice none 0 0,.int .i64 0,.slice none 0 0,.slice none 0 0] 31,BlkP W.heap.size #[.slice s.ad s.len s.cap,.int .i64 secs] 24] wx)
 case first =>
  (first | (with_reducible refine pl2 (.q [0,1,3,4,6] (.z 2 10 (.q [5] (.c 7 (.z 8 10 (.q [9] (.g 10 (.x [11] .d))) (.g 8 (.q [9] (.x [11] .d)))))) (.g 2 (.q [5,7] (.g 8 (.q [9] (.x [11] .d))))))) ?_) | refine pl1 (.q [0,1,3,4,6] (.z 2 10 (.q [5] (.c 7 (.z 8 10 (.q [9] (.g 10 (.x [11] .d))) (.g 8 (.q [9] (.x [11] .d)))))) (.g 2 (.q [5,7] (.g 8 (.q [9] (.x [11] .d))))))) ?_);simp only [Plan.run,pick,gZ,gS,gA,gN]
  (repeat go_big_quiet_step (exact qZ));refine nZ ?_
  refine ⟨?_,?_⟩
  ·rintro w1 ⟨g1,rfl⟩
   go_wp2_with fail
   refine (CL _ ii).mono ?_
   rintro e w2 ⟨ad',cap',rfl,o,hne⟩
   obtain ⟨g2,rfl⟩:=o.some_ (.inr hgood.1)
   obtain ⟨B1,gm2⟩:=J1 ii (B0 g1) o
   dsimp only
   go_wp2_with fail
   dsimp only [Nx]
   refine ⟨by obtain ⟨g,rfl⟩:=o.grw;exact ⟨_,gr_gr ..⟩,?_⟩
   clear o hne
   (repeat go_big_quiet_step (exact qZ));refine nZ ?_
   (with_reducible apply cNode);(·kernel_rfl);(·rintro _ ⟨gC,rfl⟩;simp [Act.eval];exact inferInstance)
   refine ⟨?_,?_⟩
   ·rintro _ ⟨g3,rfl⟩
    go_wp2_with ((with_reducible apply wpList_make1);(·exact rfl);(·exact rfl);(·omega);intro gM hMk)
    dsimp only [Nx]
    refine ⟨⟨_,gr_gr ..⟩,?_⟩
    go_frame
    (repeat go_big_quiet_step (exact qZ));refine nZ ?_
    rintro _ ⟨g4,rfl⟩
    go_wp2_with fail
    have B3:=((row_built (B1.gr g3) hMk).gr g4).push (p:=BlkP _ _ _) (.cells #[.slice none 0 0,.int .i64 0,.slice none 0 0,.slice none 0 0] 31) (one_same _ _)
    dsimp only [Nx]
    refine ⟨⟨_,by rw [<-gr_gr,<- gr_gr];exact gr_alloc _ _ _⟩,?_⟩
    rintro w5 hw5
    simp only [gr_gr] at B3
    have B4:=B3.cls hw5
    haveI:=B4.cells (j:=0) rfl
    clear hw5 B3
    go_wp2_with fail
    dsimp only [Nx]
    rintro w6 ⟨g6,rfl⟩
    go_wp2_with fail
    go_meet
    exact ⟨_,g2,_,_,rfl,(B4.set4.gr _).perm (.cons _ (.swap _ _ _))⟩
   ·rintro _ ⟨g3,rfl⟩
    go_wp2_with fail
    have B2:=(B1.gr g3).push (p:=BlkP _ _ _) (.cells #[.slice none 0 0,.int .i64 0,.slice none 0 0,.slice none 0 0] 31) (one_same _ _)
    dsimp only [Nx]
    refine ⟨⟨_,gr_alloc _ _ _⟩,?_⟩
    rintro _ ⟨g4,rfl⟩
    go_wp2_with ((with_reducible apply wpList_make1);(·exact rfl);(·exact rfl);(·omega);intro gM hMk)
    have B3:=row_built (B2.gr g4) hMk
    dsimp only [Nx]
    refine ⟨⟨_,gr_gr ..⟩,?_⟩
    go_frame
    (repeat go_big_quiet_step (exact qZ));refine nZ ?_
    rintro w5 hw5
    have B4:=(B3.perm (.swap _ _ _)).cls hw5
    haveI:=B4.cells (j:=0) rfl
    clear hw5 B3
    go_wp2_with fail
    dsimp only [Nx]
    rintro w6 ⟨g6,rfl⟩
    go_wp2_with fail
    go_meet
    exact ⟨_,g2,_,_,rfl,(B4.set4.gr _).perm (.cons _ (.swap _ _ _))⟩
  ·rintro _ ⟨g1,rfl⟩
   go_wp2_with fail
   have B1:=(B0 g1).push (p:=BlkP _ _ _) (.cells #[.slice none 0 0,.int .i64 0,.slice none 0 0,.slice none 0 0] 31) (one_same _ _)
   dsimp only [Nx]
   refine ⟨⟨_,gr_alloc _ _ _⟩,?_⟩
   rintro w1 hw1
   have B2:=B1.cls hw1
   haveI:GM s w1:=by obtain ⟨g2,rfl⟩:=hw1;infer_instance
   have c1:w1.cell? ⟨W.heap.size,0,none⟩=some (.slice s.ad s.len s.cap):=by
    haveI:=B2.cells (j:=2) rfl
    simp [go_sem]
   clear B1
   go_wp2_with fail
   refine (CL _ ii).mono ?_
   rintro e w2 ⟨ad',cap',rfl,o,hne⟩
   obtain ⟨g2,rfl⟩:=o.some_ (.inr hgood.1)
   obtain ⟨B3,gm2⟩:=J1 ii B2 o
   dsimp only
   go_wp2_with fail
   dsimp only [Nx]
   refine ⟨by obtain ⟨ga,rfl⟩:=hw1;obtain ⟨gb,e⟩:=o.grw;exact ⟨_,by rw [e,gr_gr]⟩,?_⟩
   clear o hne hw1 B2 c1
   (repeat go_big_quiet_step (exact qZ));refine nZ ?_
   rintro w3 hw3
   have B5:=B3.cls hw3
   clear B3
   go_wp2_with ((with_reducible apply wpList_make1);(·exact rfl);(·exact rfl);(·omega);intro gM hMk)
   have B6:=row_built B5 hMk
   dsimp only [Nx]
   refine ⟨by obtain ⟨ga,rfl⟩:=hw3;exact ⟨_,gr_gr ..⟩,?_⟩
   clear hw3
   go_frame
   (repeat go_big_quiet_step (exact qZ));refine nZ ?_
   rintro w5 hw5
   have B4:=(B6.perm ((List.Perm.cons _ (.swap _ _ _)).trans (.swap _ _ _))).cls hw5
   haveI:=B4.cells (j:=0) rfl
   clear hw5 B6 B5
   go_wp2_with fail
   dsimp only [Nx]
   rintro w6 ⟨g6,rfl⟩
   go_wp2_with fail
   go_meet
   exact ⟨_,g2,_,_,rfl,(B4.set4.gr _).perm (.cons _ (.swap _ _ _))⟩
 case rest =>
  obtain ⟨x,g2,cap2,ab,rfl,B⟩:=hcut
  haveI:=B.cells (j:=0) rfl
  obtain ⟨L,hL⟩:∃ L:Nat->List Nat->Option Addr->Nat->List SP,L=λ k ds ad cap=>[BlkP x #[.slice (some ⟨g2,0,none⟩) s.len cap2,.int .i64 secs,.slice ad k cap,.slice (some ⟨ab,0,none⟩) n n] 31,BlkP (W.heap.size+1) #[.slice none 0 0,.int .i64 0,.slice none 0 0,.slice none 0 0] 31,BlkP W.heap.size #[.slice s.ad s.len s.cap,.int .i64 secs] 24,GMP (s.at_ g2 cap2),RowP ab (List.replicate n (.bool false)),SlP 60 1 ad k cap (ds.map λ d=>[.pointer (some ⟨d,0,none⟩)])]++ds.map λ d=>DevP d secs 0 λ _=>blankS b:=⟨_,rfl⟩
  have B0:Built W (L 0 [] none 0) wc:=by
   rw [hL]
   exact (B.perm (.cons _ (List.perm_append_comm (l₁:=[GMP (s.at_ g2 cap2),RowP ab (List.replicate n (.bool false))])))).more (SlP.nil ..)
  go_wp2_with fail
  go_loopw [26] (λ i wr=>∃ (k:Nat) (ds:List Nat) (ad:Option Addr) (cap:Nat),k<=n/\i=.int .i64 k/\ds.length=k/\Built W (L k ds ad cap) wr)
   (λ i _=>n - (intOf i).toNat)
  case atStart=>exact ⟨0,[],none,0,Nat.zero_le _,rfl,rfl,B0⟩
  case round =>
   clear B0 B
   obtain ⟨k,ds,ad,cap,hk,rfl,hds,B⟩:=hrel
   rw [hL] at B
   haveI:=B.cells (j:=0) rfl
   haveI:=B.cells (j:=1) rfl
   haveI:=B.cells (j:=2) rfl
   by_cases hlt:k < n
   ·have hL:=Lib.hid hL
    have NT:=new_tu secs (by have:=hgood.2.2.1;omega) (by have:=hgood.2.2.2.1;omega)
    go_wp2_with fail
    refine (B.calln NT).mono ?_
    rintro e w1 ⟨v,rfl,B1⟩
    obtain ⟨d,rfl,B2⟩:=B1.exs
    clear B B1
    dsimp only
    go_wp2_with fail
    refine (B2.call (i:=0) (fresh_tu d secs 0 _ (by have:=hgood.2.2.1;omega) b) rfl).mono ?_
    rintro e w2 ⟨v,rfl,B3⟩
    rw [List.set_cons_zero] at B3
    clear B2
    haveI:=B3.cells (j:=1) rfl
    dsimp only
    go_wp2_with (at_builtin;refine wpList_appB (i:=6) (B3.alloc _) rfl rfl rfl ii ⟨by simp [Value.oneCell']⟩ rfl (by omega) (by omega) λ lb' cap' w4 B4=>?_;haveI:=B4.cells (j:=1) rfl)
    refine ⟨⟨k+1,ds++[d],some ⟨lb',0,none⟩,cap',hlt,by go_num,by simp [hds],?_⟩,by simp [intOf];omega⟩
    rw [hL.out]
    simp only [List.map_append,List.map_cons,List.map_nil]
    rw [<-List.append_assoc]
    exact (B4.set (i:=1) rfl 2 (.slice (some ⟨lb',0,none⟩) (k+1) cap')).perm (List.perm_append_comm (l₁:=[DevP d secs 0 λ _=>blankS b]))
   ·obtain rfl:n=k:=by omega
    go_wp2_with fail
    have B5:=(B.drop.set4 (a:=.slice (some ⟨g2,0,none⟩) s.len cap2) (b:=.int .i64 secs) (c:=.slice ad n cap) (d:=.slice (some ⟨ab,0,none⟩) n n))
    have hn0:0 < n:=by
     have h1:=sumW_lt hgood s.len 0 (by have:=hgood.1;omega) (Nat.le_refl _)
     have h2:=wide_of hgood (k:=0) (by have:=hgood.1;omega)
     simp only [sumW] at h1
     omega
    clear B
    obtain ⟨_,hx,st,_,_⟩:=id B5
    obtain ⟨h0,p0,_⟩:=st.get (i:=4) rfl
    obtain ⟨lb,rfl⟩:∃ lb,ad=some ⟨lb,0,none⟩:=by
     rcases p0.2.2 with ⟨_,h1,_⟩ | ⟨g,e,_⟩
     ·omega
     ·exact ⟨g,e⟩
    haveI:=B5.cells (j:=0) rfl
    refine bodyPost_ret (results_sub (z:=4) rfl _ _ (W.heap.size+1) _ rfl (sub_cells rfl) Tryz.underlying31 (by kernel_rfl)) rfl ?_
    subst hds
    refine ⟨⟨s.at_ g2 cap2,secs,lb,cap,ab,ds.length,ds⟩,rfl,rfl,⟨g2,cap2,rfl⟩,(B5.drop.drop.turns ⟨λ n o e=>by cases e⟩).mono λ h' st=>⟨⟨hgood,?_,hn100⟩,?_⟩⟩
    ·show (ds.length:Int)=sumW (s.at_ g2 cap2) s.len
     rw [<-hn,sumW_at]
    ·have e:devL ⟨s.at_ g2 cap2,secs,lb,cap,ab,ds.length,ds⟩ 0 (λ _ _=>blankS b)=ds.map λ d=>DevP d secs 0 λ _=>blankS b:=by
      refine List.ext_getElem (by simp [devL]) λ i h1 h2=>?_
      simp [devL] at h1
      simp [devL,h1]
     show star (devL ⟨s.at_ g2 cap2,secs,lb,cap,ab,ds.length,ds⟩ 0 (λ _ _=>blankS b)++_) h'
     rw [e]
     refine star.perm (List.perm_append_comm (l₁:=[GMP (s.at_ g2 cap2),RowP lb (ptrL ds),RowP ab (List.replicate ds.length (.bool false))])) ?_
     refine star.perm (.cons _ (.swap _ _ _)) ?_
     refine (λ q:_/\_=>star.mono2 q.1 q.2 st) ⟨rfl,λ i p q e1 e2 h hp=>?_⟩
     match i,e1,e2 with
     | 0,e1,e2=>cases e1;cases e2;exact hp
     | 1,e1,e2=>cases e1;cases e2;exact hp
     | 2,e1,e2=>cases e1;cases e2;exact slP_row hp
     | i+3,e1,e2=>exact (Option.some.inj ((show (ds.map λ d=>DevP d secs 0 λ _=>blankS b)[i]?=some p from e1).symm.trans e2)) ▸ hp
end Go.Proofs.YtlfjdjndhcmliaaGreatDoor
namespace Go.Proofs.YtlfjdjndhcmliaaGreatDoor
open Go.RowKit Go.Sort
section
variable (s:Slc) (secs:Int) [k:Geo s secs] (W:World) [m:GM s W]
include k m in
set_option maxRecDepth 512 in
theorem apart_fn (ag aa bg ba z:Int) (h1:0<=aa/\aa<=40000) (h2:0<=ba/\ba<=40000) (h:ag≠bg\/aa+takI s ag z<=ba\/ba+takI s bg z<=aa) :
  Fn 228 #[.agg #[.slice s.ad s.len s.cap,.int .i64 secs],.agg #[.int .i64 ag,.int .i64 aa],.agg #[.int .i64 bg,.int .i64 ba],.int .i64 z] W (.bool true):=by
 refine ⟨?_⟩
 have b1:=takI_bd s secs ag z
 have b2:=takI_bd s secs bg z
 by_cases e:ag=bg
 ·subst e
  have e1:(ag != ag)=false:=by simp
  by_cases e2:aa+takI s ag z<=ba
  ·have e3:=decide_eq_true e2
   clear h
   go_enter Tryz.func228,Tryz.ntmps228
   go_wp2_with fail
   (first | (with_reducible refine pl2 (.q [0,1,2,3,4,5,6,7,8,9,10,11,12,13,14,15,16,17,18,19,20,21,22,23,24,25,26,27,28,29,30,31] .d) ?_) | refine pl1 (.q [0,1,2,3,4,5,6,7,8,9,10,11,12,13,14,15,16,17,18,19,20,21,22,23,24,25,26,27,28,29,30,31] .d) ?_);simp only [Plan.run,pick,gZ,gS,gA,gN]
   (repeat go_big_quiet_step (exact qZ));refine nZ ?_;rintro _ ⟨g,rfl⟩
   go_wp2_with fail
   go_ret
   exact Ret.mk rfl grown
  ·have h3:ba+takI s ag z<=aa:=by omega
   have e3:=decide_eq_false e2
   clear h
   go_enter Tryz.func228,Tryz.ntmps228
   go_wp2_with fail
   (first | (with_reducible refine pl2 (.q [0,1,2,3,4,5,6,7,8,9,10,11,12,13,14,15,16,17,18,19,20,21,22,23,24,25,26,27,28,29,30,31] .d) ?_) | refine pl1 (.q [0,1,2,3,4,5,6,7,8,9,10,11,12,13,14,15,16,17,18,19,20,21,22,23,24,25,26,27,28,29,30,31] .d) ?_);simp only [Plan.run,pick,gZ,gS,gA,gN]
   (repeat go_big_quiet_step (exact qZ));refine nZ ?_;rintro _ ⟨g,rfl⟩
   go_wp2_with fail
   go_ret
   exact Ret.mk rfl grown
 ·have e1:(ag != bg)=true:=by simpa using e
  clear h
  go_enter Tryz.func228,Tryz.ntmps228
  go_wp2_with fail
  (first | (with_reducible refine pl2 (.q [0,1,2,3,4,5,6,7,8,9,10,11,12,13,14,15,16,17,18,19,20,21,22,23,24,25,26,27,28,29,30,31] .d) ?_) | refine pl1 (.q [0,1,2,3,4,5,6,7,8,9,10,11,12,13,14,15,16,17,18,19,20,21,22,23,24,25,26,27,28,29,30,31] .d) ?_);simp only [Plan.run,pick,gZ,gS,gA,gN]
  (repeat go_big_quiet_step (exact qZ));refine nZ ?_;rintro _ ⟨g,rfl⟩
  go_wp2_with fail
  go_ret
  exact Ret.mk rfl grown
structure PtOk (s:Slc) (secs:Int) (p:Pt):Prop where
 lv:0<=p.level/\p.level<=3
 bt:1<=p.birth/\p.birth<=4294967295
 a:mayB s secs p.ag p.aa p.size=true
 one:p.two=false->p.bg=0/\p.ba=0
 b:p.two=true->mayB s secs p.bg p.ba p.size=true/\(p.ag≠p.bg\/p.aa+takI s p.ag p.size<=p.ba\/p.ba+takI s p.bg p.size<=p.aa)
include k m in
theorem pright_fn (p:Pt) (h:PtOk s secs p):Fn 184 #[.agg #[.slice s.ad s.len s.cap,.int .i64 secs],.agg p.cs] W (.bool true):=by
 refine ⟨?_⟩
 obtain ⟨⟨l0,l1⟩,⟨b0,b1⟩,ha,h1,hb⟩:=h
 have OA:∀ w z g a,GM s w->_:=λ w z g a (_:GM s w)=>of_at s secs g a z w
 have e1:decide (p.level < 0)=false:=decide_eq_false (by omega)
 have e2:decide (3 < p.level)=false:=decide_eq_false (by omega)
 have e3:decide (p.birth < 1)=false:=decide_eq_false (by omega)
 have e4:decide (4294967295 < p.birth)=false:=decide_eq_false (by omega)
 have ha':=Lib.hid ha
 have hb':=Lib.hid hb
 have h1':=Lib.hid h1
 have a1:=may_in ha
 clear ha hb h1
 go_enter Tryz.func184,Tryz.ntmps184
 go_wp2_with fail
 refine (OA _ _ _ _ ii).mono ?_
 rintro e w' ⟨hy,_⟩
 obtain ⟨ad,cap,rfl,o⟩:=hy ha'.out
 obtain ⟨g1,rfl⟩:=o.grw
 clear hy o
 dsimp only
 cases h2:p.two
 ·obtain ⟨z1,z2⟩:=h1'.out h2
  go_wp2_with fail
  go_ret
  exact Ret.mk rfl grown
 ·obtain ⟨hb,hap⟩:=hb'.out h2
  have hb:=Lib.hid hb
  have a2:=may_in hb.out
  haveI:=apart_fn s secs (gr W g1) p.ag p.aa p.bg p.ba p.size a1.2.2 a2.2.2 hap
  have AP:∀ w,GM s w->Fn 228 #[.agg #[.slice s.ad s.len s.cap,.int .i64 secs],.agg #[.int .i64 p.ag,.int .i64 p.aa],.agg #[.int .i64 p.bg,.int .i64 p.ba],.int .i64 p.size] w (.bool true):=λ w _=>apart_fn s secs w p.ag p.aa p.bg p.ba p.size a1.2.2 a2.2.2 hap
  clear hap
  go_wp2_with fail
  refine (OA _ _ _ _ ii).mono ?_
  rintro e w' ⟨hy,_⟩
  obtain ⟨ad,cap,rfl,o⟩:=hy hb.out
  obtain ⟨g2,rfl⟩:=o.grw
  clear hy o
  dsimp only
  go_wp2_with fail
  refine @Fn.go _ _ _ _ _ (AP _ ii) λ g=>?_
  dsimp only
  go_wp2_with fail
  go_ret
  exact Ret.mk rfl grown
end
section
variable (s:Slc) (secs:Int) [k:Geo s secs] (W:World) [m:GM s W]
structure NdOk (s:Slc) (secs:Int) (n:Nd):Prop where
 sz:0<=n.size/\n.size<=16384
 r:n.root.isNone=true\/n.root.isNone=false/\PtOk s secs n.root/\n.root.level=lvl n.size
include k m in
theorem nright_fn (n:Nd) (h:NdOk s secs n):Fn 145 #[.agg #[.slice s.ad s.len s.cap,.int .i64 secs],.agg n.cs] W (.bool true):=by
 refine ⟨?_⟩
 obtain ⟨⟨l0,l1⟩,h⟩:=h
 have e1:decide (n.size < 0)=false:=decide_eq_false (by omega)
 have e2:decide (16384 < n.size)=false:=decide_eq_false (by omega)
 rcases h with h | ⟨h,hp,hl⟩
 ·have HN:∀ w,Fn 169 #[.agg #[.int .i64 n.root.ag,.int .i64 n.root.aa,.int .i64 n.root.bg,.int .i64 n.root.ba,.bool n.root.two,.int .i64 n.root.size,.int .i64 n.root.level,.int .i64 n.root.birth,.int .u64 n.root.sum.a,.int .u64 n.root.sum.b,.int .u64 n.root.sum.c,.int .u64 n.root.sum.d]] w (.bool true):=λ w=>by have e:=none_fn n.root w;rw [h] at e;exact e
  clear h
  go_enter Tryz.func145,Tryz.ntmps145
  go_wp2_with fail
  (first | (with_reducible refine pl2 (.q [0,1,2,3,4,5,6,7,8,9,10,11,12,13,14,15,16,17,18] .d) ?_) | refine pl1 (.q [0,1,2,3,4,5,6,7,8,9,10,11,12,13,14,15,16,17,18] .d) ?_);simp only [Plan.run,pick,gZ,gS,gA,gN]
  (repeat go_big_quiet_step (exact qZ));refine nZ ?_;rintro _ ⟨g,rfl⟩
  go_wp2_with fail
  go_ret
  exact Ret.mk rfl grown
 ·have HN:∀ w,Fn 169 #[.agg #[.int .i64 n.root.ag,.int .i64 n.root.aa,.int .i64 n.root.bg,.int .i64 n.root.ba,.bool n.root.two,.int .i64 n.root.size,.int .i64 n.root.level,.int .i64 n.root.birth,.int .u64 n.root.sum.a,.int .u64 n.root.sum.b,.int .u64 n.root.sum.c,.int .u64 n.root.sum.d]] w (.bool false):=λ w=>by have e:=none_fn n.root w;rw [h] at e;exact e
  have HP:∀ w,[GM s w]->Fn 184 #[.agg #[.slice s.ad s.len s.cap,.int .i64 secs],.agg #[.int .i64 n.root.ag,.int .i64 n.root.aa,.int .i64 n.root.bg,.int .i64 n.root.ba,.bool n.root.two,.int .i64 n.root.size,.int .i64 n.root.level,.int .i64 n.root.birth,.int .u64 n.root.sum.a,.int .u64 n.root.sum.b,.int .u64 n.root.sum.c,.int .u64 n.root.sum.d]] w (.bool true):=λ w _=>pright_fn s secs w n.root hp
  have hl':(n.root.level == lvl n.size)=true:=by simp [hl]
  clear h hp hl
  go_enter Tryz.func145,Tryz.ntmps145
  go_wp2_with fail
  (first | (with_reducible refine pl2 (.q [0,1,2,3,4,5,6,7,8,9,10,11,12,13,14,15,16,17,18] .d) ?_) | refine pl1 (.q [0,1,2,3,4,5,6,7,8,9,10,11,12,13,14,15,16,17,18] .d) ?_);simp only [Plan.run,pick,gZ,gS,gA,gN]
  (repeat go_big_quiet_step (exact qZ));refine nZ ?_;rintro _ ⟨g,rfl⟩
  go_wp2_with fail
  go_ret
  exact Ret.mk rfl grown
end
theorem wpIn_range_one {P:Program} {n:Nat} {g:Operand} {ps:Array Tmp} {assign body:Code} {Q:Exit->Act->World->Prop} {a:Act} {w:World}
  {gf:Nat} {lb:Array Value} (hg:a.eval g=.func (.func gf) #[] lb) (eg:∀ args w,(callFunc gf args).run P w=.ok (.enter gf args) w)
  {x:Array Value} {w0:World} (hseq:SeqOne P gf lb x w0) (hb0:Below w0.heap.size w0 w) (hps:x.size=ps.size)
  (I:World->Prop) (Ix:World->Prop) (hI:Abides w.heap.size I) (hIx:Abides w.heap.size Ix) (h0:I w) (a₁:Act)
  (hassign:∀ (l m:Nat) (W:World) (K:Act->World->Prop),K a₁ W ->
   assign.wpIn (Fence.wide.inRound l) m P (Exit.then K (λ _ _ _=>False)) { tmps:=(ps.zip x).foldl (λ t (p,v)=>t.setIfInBounds p v) a.tmps,defers:=[] } W)
  (hbody:∀ (l m:Nat) (W:World),I W->body.wpIn (Fence.wide.inRound l) m P (λ e _ W'=>e=.ret/\Kept w.heap.size W W'/\Ix W') a₁ W)
  (hstop:∀ (D:Nat) (W:World),w.heap.size<=D->Ix W->W.heap[D]?=some (.deferred (some []))->Code.ret.wpIn Fence.wide n P Q { a with defers:={ target:=.collected D,args:=#[] }::a.defers } W) :
  (Code.rangeFunc g ps assign body).wpIn Fence.wide n P Q a w:=by
 refine wpIn_rangeFunc ?_
 intro fn hfn
 rw [show Fence.wide.round=none from rfl]
 obtain ⟨rec,hrec⟩:∃ rec:LoopState->Option Code->Loop,rec=λ st pe=>{ state:=st,pending:=pe,fn,tmps:=a.tmps,params:=ps,assign,body,defers:=w.heap.size }:=⟨_,rfl⟩
 obtain ⟨W1,hW1⟩:∃ W1,(w.alloc (.deferred (some []))).alloc (.loop (rec .ready none))=W1:=⟨_,rfl⟩
 have hs1:W1.heap.size=w.heap.size+2:=by rw [<-hW1];simp
 have hL1:W1.heap[w.heap.size+1]?=some (.loop (rec .ready none)):=by
  rw [<-hW1];have:=World.alloc_heap_new (w.alloc (.deferred (some []))) (.loop (rec .ready none));rwa [World.size_alloc] at this
 have hK1:W1.heap[w.heap.size]?=some (.deferred (some [])):=by
  rw [<-hW1];exact (Below.heap_alloc _ _ _ (by simp)).trans (World.alloc_heap_new w _)
 have hbw:Below w.heap.size w W1:=by rw [<-hW1];exact ((Below.refl _ w).alloc (Nat.le_refl _) _).alloc (by simp) _
 have hI1:I W1:=hI _ _ h0 hbw
 have hb1:Below w0.heap.size w0 W1:=hb0.trans (hbw.mono hb0.size)
 refine ⟨w.heap.size+1,[{ target:=.collected w.heap.size,args:=#[] }],W1,{ target:=.fn (.func gf) lb,args:=#[.func (.yield (w.heap.size+1)) #[] #[]] },W1,gf,
  #[.func (.yield (w.heap.size+1)) #[] #[]]++lb,W1,?_,?_,?_,?_,λ h=>(by simp [Fence.wide] at h),?_⟩
 ·rw [<-hW1,hrec];exact run_enterLoop_outer _ _ _ _ _
 ·simp only [resolve,hg]
  simp [go_sem]
 ·intro f' hf';trivial
 ·simp [invoke,go_sem,eg]
 ·refine callsIn_wide.2 ?_
  refine (hseq (w.heap.size+1)
   (λ W=>I W/\W.heap[w.heap.size+1]?=some (.loop (rec .ready none))/\W.heap[w.heap.size]?=some (.deferred (some [])))
   (λ W=>Ix W/\W.heap[w.heap.size+1]?=some (.loop (rec .done (some .ret)))/\W.heap[w.heap.size]?=some (.deferred (some [])))
   W1 hb1
   (λ A B hs hab=>⟨hI A B hs.1 (hab.mono (by omega)),(hab.block _ (by omega)).trans hs.2.1,(hab.block _ (by omega)).trans hs.2.2⟩)
   (λ A B hs hab=>⟨hIx A B hs.1 (hab.mono (by omega)),(hab.block _ (by omega)).trans hs.2.1,(hab.block _ (by omega)).trans hs.2.2⟩)
   ?_ ⟨hI1,hL1,hK1⟩).mono ?_
  ·-- the round
   rintro m W ⟨hi,hl,hk⟩
   have hlt:w.heap.size+1 < W.heap.size:=(Array.getElem?_eq_some_iff.1 hl).1
   have hy:=run_yield (P:=P) (args:=x) hl (by rw [hrec];exact hps)
   rw [hrec] at hy
   refine ⟨fn,_,assign,body,hy,roundIn_of_wpIn hfn (hassign _ _ W _ ⟨_,run_beginRound hl (by rw [hrec]),?_⟩)⟩
   have hl2:(W.putObj (w.heap.size+1) (.loop { rec .ready none with state:=.busy })).heap[w.heap.size+1]?=some (.loop { rec .ready none with state:=.busy }):=World.putObj_heap_same hlt
   have hk2:(W.putObj (w.heap.size+1) (.loop { rec .ready none with state:=.busy })).heap[w.heap.size]?=some (.deferred (some [])):=(World.putObj_heap_other (by omega)).trans hk
   have hz2:(W.putObj (w.heap.size+1) (.loop { rec .ready none with state:=.busy })).heap.size=W.heap.size:=by simp [World.putObj]
   have hi2:=hI _ _ hi (below_put W (w.heap.size+1) _ (.loop { rec .ready none with state:=.busy }) (by omega) hl (by omega))
   refine wpIn_mono (hbody _ _ _ hi2) ?_
   rintro e a3 W3 ⟨rfl,hk3,hi3⟩
   replace hk3:Kept w.heap.size (W.putObj (w.heap.size+1) (.loop { rec .ready none with state:=.busy })) W3:=hk3
   have hl3:=(hk3.same _ (by omega) (by omega)).trans hl2
   have hkk:=(hk3.same _ (Nat.le_refl _) (by omega)).trans hk2
   have hsz:=hk3.size
   have hr:=run_endRound (P:=P) (some .ret) hl3
   rw [hrec] at hr
   rw [hrec] at hl3
   refine ⟨_,_,hr,rfl,hIx _ _ hi3 (below_put _ _ _ _ (by omega) hl3 (by omega)),by rw [hrec];exact World.putObj_heap_same (Array.getElem?_eq_some_iff.1 hl3).1,(World.putObj_heap_other (by omega)).trans hkk⟩
  ·-- behind the iterator
   rintro e W2 ⟨⟨v,rfl⟩,hi,hl,hk⟩
   have hlt:w.heap.size+1 < W2.heap.size:=(Array.getElem?_eq_some_iff.1 hl).1
   exact ⟨some .ret,_,by have:=run_endLoop (P:=P) hl (by rw [hrec];simp);rw [hrec] at this;exact this,hstop _ _ (Nat.le_refl _) (hIx _ _ hi (below_put _ _ _ _ (by omega) hl (by omega))) ((World.putObj_heap_other (by omega)).trans hk)⟩
theorem sect_list (t:ByteArray) (i:Nat):(sect t i).data.toList=(t.data.toList.drop (64*i)).take 64:=by
 simp [sect,ByteArray.data_extract,Array.toList_extract,List.extract_eq_take_drop]
theorem sects_cat (t:ByteArray):∀ z,(sects t z).flatMap (λ s=>s.data.toList)=t.data.toList.take (64*z)
 | 0=>by simp [sects]
 | z+1=>by
  have ih:=sects_cat t z
  simp only [sects,List.range_succ,List.map_append,List.flatMap_append] at ih ⊢
  rw [ih]
  simp only [List.map_cons,List.map_nil,List.flatMap_cons,List.flatMap_nil,List.append_nil,sect_list]
  rw [show 64*(z+1)=64*z+64 by omega,List.take_add]
theorem catD_enc (L:List Col) (D:List ByteArray):∀ k,k<=L.length->catD L (encL L D) k=(List.range (cntD L k)).flatMap λ i=>(D.getD (i % D.length) ⟨#[]⟩).data.toList
 | 0,_=>rfl
 | k+1,hk=>by
  have ih:=catD_enc L D k (by omega)
  obtain ⟨c,hc⟩:∃ c,L[k]?=some c:=⟨_,List.getElem?_eq_getElem (by omega)⟩
  obtain ⟨s,hs⟩:∃ s,(encL L D)[k]?=some s:=⟨_,List.getElem?_eq_getElem (by rw [enc_len];omega)⟩
  rw [catD_succ hc hs,cntD_succ hc,ih]
  cases hp:c.par
  ·rw [enc_get hc hp] at hs
   cases hs
   simp [List.range_succ]
  ·simp
theorem sects_mod (t:ByteArray) (z:Nat):(List.range z).flatMap (λ i=>((sects t z).getD (i % (sects t z).length) ⟨#[]⟩).data.toList)=t.data.toList.take (64*z):=by
 rw [<-sects_cat t z,sects_len]
 conv=>rhs;rw [sects,List.flatMap_map]
 simp only [List.flatMap]
 congr 1
 refine List.map_congr_left λ i hi=>?_
 have hi:i < z:=by simpa using hi
 rw [Nat.mod_eq_of_lt hi]
 simp [sects,hi]
theorem first_try {s:Slc} {secs:Int} (h:goodG s secs) {grp:Nat} (hg:grp < s.len) (at_ z:Nat) (hz:1<=z/\z<=4) (t:ByteArray) (ht:t.size=64*z) :
  tryS s grp z (colL s grp at_ z).length (encL (colL s grp at_ z) (sects t z)) (colL s grp at_ z)=t:=by
 have hw:=wide_of h hg
 have hl:=(colL_len h hg (at_:=at_) hz).1
 have hlist:t.data.toList.take (64*z)=t.data.toList:=List.take_of_length_le (by rw [<-ht];exact Nat.le_refl _)
 unfold tryS
 split
 ·rename_i hx
  rw [Int.toNat_natCast] at hx
  have hL:∀ (i:Nat) (c:Col),(colL s grp at_ z)[i]?=some c->c.par=false:=λ i c e=>by
   unfold colL at e
   rw [if_pos (by simpa using hx)] at e
   simp only [List.getElem?_map,Option.map_eq_some_iff] at e
   obtain ⟨_,_,rfl⟩:=e
   rfl
  generalize colL s grp at_ z=L at *
  have hc:∀ i,i<=L.length->cntD L i=i:=λ i=>by
   induction i with
   | zero=>intro _;rfl
   | succ i ih =>
    intro hi
    obtain ⟨c,hc⟩:∃ c,L[i]?=some c:=⟨_,List.getElem?_eq_getElem (by omega)⟩
    rw [cntD_succ hc,ih (by omega),hL i c hc];rfl
  have e:(encL L (sects t z)).take z=sects t z:=by
   refine List.ext_getElem? λ i=>?_
   rcases Nat.lt_or_ge i z with hi | hi
   ·obtain ⟨c,hci⟩:∃ c,L[i]?=some c:=⟨_,List.getElem?_eq_getElem (by omega)⟩
    rw [List.getElem?_take_of_lt hi,enc_get hci (hL i c hci),hc i (by omega),sects_len,Nat.mod_eq_of_lt hi]
    simp [sects,hi]
   ·rw [List.getElem?_eq_none (by simp [enc_len];omega),List.getElem?_eq_none (by rw [sects_len];omega)]
  rw [e]
  unfold joinS
  rw [sects_cat,hlist]
 ·rename_i hx
  rw [Int.toNat_natCast] at hx
  have hx1:s.x grp≠0:=hx
  have hL:cntD (colL s grp at_ z) (colL s grp at_ z).length=z:=by
   unfold cntD
   rw [List.take_length]
   unfold colL
   rw [if_neg (by simpa using hx)]
   rw [parL_cnt];rfl
  rw [catD_enc _ _ _ (Nat.le_refl _),hL,sects_mod,hlist]
abbrev KS:=Pt->ByteArray->Prop
def KS.le (K K':KS):Prop:=∀ p t,K p t->K' p t
theorem KS.le.refl (K:KS):K.le K:=λ _ _ h=>h
theorem KS.le.trans {a b c:KS} (h:a.le b) (h':b.le c):a.le c:=λ p t e=>h' p t (h p t e)
def KS.add (K:KS) (p:Pt) (t:ByteArray):KS:=λ q u=>K q u\/(q=p/\u=t)
theorem KS.le_add (K:KS) (p:Pt) (t:ByteArray):K.le (K.add p t):=λ _ _ h=>.inl h
theorem KS.add_at (K:KS) (p:Pt) (t:ByteArray):K.add p t p t:=.inr ⟨rfl,rfl⟩
def byteAt (t:ByteArray) (j:Nat):UInt8:=t.data.toList.getD j 0
theorem byteAt_ge {t:ByteArray} {j:Nat} (h:t.size<=j):byteAt t j=0:=by
 unfold byteAt
 rw [List.getD_eq_getElem?_getD,List.getElem?_eq_none (by rw [size_list];exact h)];rfl
def bl:Nat->Nat
 | 0=>1
 | n+1=>4*bl n
def span (n:Nat):Nat:=256*bl n
def putB (g:Nat->UInt8) (i:Nat) (s:ByteArray) (j:Nat):UInt8:=if 256*i<=j/\j < 256*(i+1) then byteAt s (j - 256*i) else g j
def cutB (g:Nat->UInt8) (m:Int) (j:Nat):UInt8:=if (j:Int) < m then g j else 0
def Tr (K:KS):Nat->Pt->(Nat->UInt8)->Prop
 | 0,p,g=>(p=Pt.none/\∀ j,j < 256->g j=0)\/(p.isNone=false/\p.level=0/\∃ t,K p t/\(t.size≠0/\t.size % 64=0/\t.size<=256)/\∀ j,j < 256->g j=byteAt t j)
 | n+1,p,g=>(p=Pt.none/\∀ j,j < span (n+1)->g j=0)\/(p.isNone=false/\p.level=n+1/\∃ l,Fit4 l/\K p (idxS l)/\∀ k,k < 4->Tr K n (l k) λ j=>g (span n*k+j))
theorem Tr.mono {K K':KS} (h:K.le K'):∀ {n:Nat} {p:Pt} {g:Nat->UInt8},Tr K n p g->Tr K' n p g
 | 0,_,_,.inl a=>.inl a
 | 0,_,_,.inr ⟨a,b,t,c,d⟩=>.inr ⟨a,b,t,h _ _ c,d⟩
 | _+1,_,_,.inl a=>.inl a
 | _+1,_,_,.inr ⟨a,b,l,c,d,e⟩=>.inr ⟨a,b,l,c,h _ _ d,λ k hk=>(e k hk).mono h⟩
theorem Tr.congr {K:KS}:∀ {n:Nat} {p:Pt} {g g':Nat->UInt8},Tr K n p g->(∀ j,j < span n->g' j=g j)->Tr K n p g'
 | 0,_,_,_,.inl ⟨a,b⟩,e=>.inl ⟨a,λ j hj=>(e j hj).trans (b j hj)⟩
 | 0,_,_,_,.inr ⟨a,b,t,c,d,f⟩,e=>.inr ⟨a,b,t,c,d,λ j hj=>(e j hj).trans (f j hj)⟩
 | _+1,_,_,_,.inl ⟨a,b⟩,e=>.inl ⟨a,λ j hj=>(e j hj).trans (b j hj)⟩
 | n+1,_,_,_,.inr ⟨a,b,l,c,d,f⟩,e=>.inr ⟨a,b,l,c,d,λ k hk=>(f k hk).congr λ j hj=>e _ (by
   unfold span at *;simp only [bl]
   have:bl n*k<=bl n*3:=Nat.mul_le_mul_left _ (by omega)
   rw [Nat.mul_assoc];omega)⟩
theorem Pt.none_isNone:Pt.none.isNone=true:=(ptEq_iff _ _).2 rfl
theorem Pt.isNone_iff (p:Pt):p.isNone=true ↔ p=Pt.none:=ptEq_iff _ _
theorem Tr.zero (K:KS) {n:Nat} {g:Nat->UInt8} (h:∀ j,j < span n->g j=0):Tr K n Pt.none g:=by
 cases n with
 | zero=>exact .inl ⟨rfl,h⟩
 | succ n=>exact .inl ⟨rfl,h⟩
theorem Tr.zeros {K:KS} {n:Nat} {g:Nat->UInt8} (h:Tr K n Pt.none g):∀ j,j < span n->g j=0:=by
 cases n with
 | zero=>rcases h with h | h;exact h.2;rw [Pt.none_isNone] at h;cases h.1
 | succ n=>rcases h with h | h;exact h.2;rw [Pt.none_isNone] at h;cases h.1
theorem Tr.lv {K:KS} {n:Nat} {p:Pt} {g:Nat->UInt8} (h:Tr K n p g):p=Pt.none\/p.isNone=false/\p.level=n/\∃ t,K p t:=by
 cases n with
 | zero=>rcases h with h | ⟨a,b,t,c,_⟩;exact .inl h.1;exact .inr ⟨a,b,t,c⟩
 | succ n=>rcases h with h | ⟨a,b,l,_,c,_⟩;exact .inl h.1;exact .inr ⟨a,b,_,c⟩
theorem Tr.links {K:KS} {n:Nat} {p:Pt} {g:Nat->UInt8} (h:Tr K (n+1) p g):∃ l:Nat->Pt,Fit4 l/\(p=Pt.none/\l=none4\/p.isNone=false/\K p (idxS l))/\∀ k,k < 4->Tr K n (l k) λ j=>g (span n*k+j):=by
 rcases h with ⟨a,b⟩ | ⟨a,_,l,c,d,e⟩
 ·refine ⟨none4,⟨λ k=>?_⟩,.inl ⟨a,rfl⟩,λ k hk=>Tr.zero K λ j hj=>b _ ?_⟩
  ·exact ⟨by kernel_rfl,zero4_ok⟩
  ·unfold span at *;simp only [bl]
   have:bl n*k<=bl n*3:=Nat.mul_le_mul_left _ (by omega)
   rw [Nat.mul_assoc];omega
 ·exact ⟨l,c,.inr ⟨a,d⟩,e⟩
theorem Tr.set {K:KS} {n:Nat} {p q:Pt} {l:Nat->Pt} {g:Nat->UInt8} {i:Nat} {s:ByteArray} (hn:n < 3) (hl:∀ k,k < 4->Tr K n (l k) λ j=>g (span n*k+j))
  (hp:Tr K n p (putB (λ j=>g (span n*(i / bl n)+j)) (i % bl n) s)) (hq:q.isNone=false) (hv:q.level=n+1) (hf:Fit4 (upd l (i / bl n) p)) (hK:K q (idxS (upd l (i / bl n) p))):Tr K (n+1) q (putB g i s):=by
 refine .inr ⟨hq,hv,_,hf,hK,λ k hk=>?_⟩
 by_cases e:k=i / bl n
 ·subst e
  have:upd l (i / bl n) p (i / bl n)=p:=if_pos rfl
  rw [this]
  refine hp.congr λ j hj=>?_
  match n,hn with
  | 0,_=>simp only [putB,span,bl] at *;grind
  | 1,_=>simp only [putB,span,bl] at *;grind
  | 2,_=>simp only [putB,span,bl] at *;grind
 ·have:upd l (i / bl n) p k=l k:=if_neg e
  rw [this]
  refine (hl k hk).congr λ j hj=>?_
  match n,hn with
  | 0,_=>simp only [putB,span,bl] at *;exact if_neg (by omega)
  | 1,_=>simp only [putB,span,bl] at *;exact if_neg (by omega)
  | 2,_=>simp only [putB,span,bl] at *;exact if_neg (by omega)
theorem Tr.up {K:KS} {n:Nat} {p q:Pt} {g:Nat->UInt8} (h:Tr K n p g) (hq:q.isNone=false) (hv:q.level=n+1) (hf:Fit4 (upd none4 0 p)) (hK:K q (idxS (upd none4 0 p))) (hz:∀ j,span n<=j->g j=0):Tr K (n+1) q g:=by
 refine .inr ⟨hq,hv,_,hf,hK,λ k hk=>?_⟩
 cases k with
 | zero=>exact h.congr λ j _=>by simp
 | succ k=>exact Tr.zero K λ j _=>hz _ (by
   have:span n*1<=span n*(k+1):=Nat.mul_le_mul_left _ (by omega)
   omega)
theorem Tr.down {K:KS} {n:Nat} {l:Nat->Pt} {g:Nat->UInt8} (h:∀ k,k < 4->Tr K n (l k) λ j=>g (span n*k+j)):Tr K n (l 0) g:=(h 0 (by omega)).congr λ j _=>by simp
theorem bl_pos:∀ n,0 < bl n
 | 0=>by decide
 | n+1=>by have:=bl_pos n;simp only [bl];omega
theorem bl_le:∀ {n m:Nat},n<=m->bl n<=bl m
 | _,0,h=>by obtain rfl:_=0:=Nat.le_zero.1 h;exact Nat.le_refl _
 | n,m+1,h=>by
  rcases Nat.lt_or_ge m n with e | e
  ·obtain rfl:n=m+1:=by omega
   exact Nat.le_refl _
  ·have:=bl_le e;simp only [bl];omega
structure Ob (K:KS) (n:Nd) (g:Nat->UInt8):Prop where
 sz:0<=n.size/\n.size<=16384
 tr:Tr K (lvl n.size).toNat n.root g
 z:∀ j:Nat,n.size<=j->g j=0
theorem lvl_bd (n:Int):0<=lvl n/\lvl n<=3:=by unfold lvl;split;omega;split;omega;split <;> omega
theorem lvl_span {n:Int} (h:n<=16384):n<=span (lvl n).toNat:=by
 unfold lvl
 split
 ·simp [span,bl];omega
 ·split
  ·simp [span,bl];omega
  ·split <;> simp [span,bl] <;> omega
theorem lvl_mono {m n:Int} (h:m<=n):lvl m<=lvl n:=by unfold lvl;split <;> split <;> (try split) <;> (try split) <;> (try split) <;> (try split) <;> omega
theorem Ob.mono {K K':KS} {n:Nd} {g:Nat->UInt8} (o:Ob K n g) (h:K.le K'):Ob K' n g:=⟨o.sz,o.tr.mono h,o.z⟩
theorem Ob.none (K:KS):Ob K Nd.none λ _=>0:=⟨by decide,Tr.zero K λ _ _=>rfl,λ _ _=>rfl⟩
def wrB (g:Nat->UInt8) (off:Nat) (s:ByteArray) (j:Nat):UInt8:=if off<=j/\j < off+s.size then byteAt s (j - off) else g j
def txt (g:Nat->UInt8) (off n:Nat):ByteArray:=⟨((List.range n).map λ j=>g (off+j)).toArray⟩
theorem txt_size (g:Nat->UInt8) (off n:Nat):(txt g off n).size=n:=by show ((List.range n).map λ j=>g (off+j)).toArray.size=n;simp
theorem txt_at {g:Nat->UInt8} {off n j:Nat} (h:j < n):byteAt (txt g off n) j=g (off+j):=by simp [byteAt,txt,h]
theorem txt_of {s:ByteArray} {g:Nat->UInt8} {off n:Nat} (hs:s.size=n) (h:∀ j,j < n->byteAt s j=g (off+j)):s=txt g off n:=by
 refine ba_ext (List.ext_getElem (by rw [size_list,size_list,txt_size,hs]) λ j h1 h2=>?_)
 rw [size_list] at h1 h2
 have e:=h j (by omega)
 rw [<-txt_at (g:=g) (off:=off) (n:=n) (by omega)] at e
 unfold byteAt at e
 rw [List.getD_eq_getElem?_getD,List.getD_eq_getElem?_getD,List.getElem?_eq_getElem (by rw [size_list];omega),List.getElem?_eq_getElem (by rw [size_list];omega)] at e
 simpa using e
class Bt (W:outParam World) (h:outParam Hl) (l:outParam (List SP)) (w:World):Prop where
 t:Turns W h (star l) w
theorem Bt.start {W:World} {h:Hl} [i:Has W h] {p:SP} (s:p h):Bt W h [p] W:=⟨Turns.same i ⟨h,λ _=>none,s,trivial,λ _ _ e=>e,(λ n o e=>by cases e),λ n=>.inr rfl⟩⟩
theorem Turns.join {W w w':World} {h:Hl} {l:List SP} {p:SP} (T:Turns W h (star l) w) (hg:∃ g,w'=Go.Proofs.YtlfjdjndhcmliaaGreatDoor.gr w g) (c:∃ h,p h/\Has w' h/\OutB w.heap.size h):Turns W h (star (p::l)) w':=by
 obtain ⟨m,h1,i,x,s⟩:=T
 obtain ⟨g,rfl⟩:=hg
 obtain ⟨h',hp,j,o⟩:=c
 refine ⟨m.gr g,h1.or h',Has.or ii j,λ k hk e=>?_,s.cons hp (apart_of (λ n hn=>i.none hn) o)⟩
 rw [Hl.or_right (x k hk e)]
 exact o.out k (Nat.lt_of_lt_of_le hk m.size)
theorem Turns.push {W w:World} {h:Hl} {l:List SP} (T:Turns W h (star l) w) (o:Obj) {p:SP} (hp:p (one w.heap.size o)):Turns W h (star (p::l)) (w.alloc o) :=
 T.join (gr_of_below (belowAlloc (Below.refl _ _) o)) ⟨_,hp,⟨λ n o' e=>by
  unfold one at e
  split at e
  ·rename_i h1;subst h1;cases e;exact heap_alloc_new ..
  ·cases e⟩,⟨λ k hk=>if_neg (by omega)⟩⟩
theorem Turns.turn {W w w':World} {h:Hl} {l:List SP} {i:Nat} {p q:SP} (T:Turns W h (star l) w) (e:l[i]?=some p) (k:∀ h,p h->Has w h->Turns w h q w'):Turns W h (star (l.set i q)) w':=by
 obtain ⟨m,h1,j,x,s⟩:=T
 exact Turns.after m x (Turns.focus j s e k)
section
variable {W w:World} {h:Hl} {l:List SP}
theorem Bt.mem (B:Bt W h l w) {i:Nat} {p:SP} (e:l[i]?=some p):∃ h0,p h0/\Has w h0:=by
 obtain ⟨m,h1,j,x,s⟩:=B.t
 obtain ⟨h0,a,b⟩:=s.get e
 exact ⟨h0,a,j.sub b⟩
theorem Bt.fin_at (B:Bt W h l w) (i:Nat) {p:SP} (e:l[i]?=some p):Turns W h p w:=by
 obtain ⟨m,h1,j,x,s⟩:=B.t
 obtain ⟨h0,a,b⟩:=s.get e
 exact ⟨m,h0,j.sub b,λ n hn hh=>b.none (x n hn hh),a⟩
theorem Bt.perm {l':List SP} (B:Bt W h l w) (p:l.Perm l'):Bt W h l' w:=⟨B.t.mono λ _ s=>s.perm p⟩
theorem Bt.drop {p:SP} (B:Bt W h (p::l) w):Bt W h l w:=⟨B.t.mono λ _ ⟨_,_,_,b,_,d,_⟩=>b.sub d⟩
theorem Bt.map {i:Nat} {p q:SP} (B:Bt W h l w) (e:l[i]?=some p) (f:∀ h,p h->q h):Bt W h (l.set i q) w:=⟨B.t.mono λ _ s=>s.map e f⟩
theorem Bt.head {p q:SP} (B:Bt W h (p::l) w) (f:∀ h,p h->q h):Bt W h (q::l) w:=B.map (i:=0) rfl f
theorem Bt.ex {α:Type} {q:α->SP} (B:Bt W h ((λ h=>∃ x,q x h)::l) w):∃ x,Bt W h (q x::l) w:=by
 obtain ⟨m,h1,j,x,s⟩:=B.t
 obtain ⟨y,s⟩:=star.ex (l:=(λ h=>∃ x,q x h)::l) (i:=0) (q:=q) s (by simp)
 exact ⟨y,⟨m,h1,j,x,s⟩⟩
theorem Bt.pure {r:Prop} {q:SP} (B:Bt W h ((λ h=>r/\q h)::l) w):r/\Bt W h (q::l) w:=by
 obtain ⟨m,h1,j,x,s⟩:=B.t
 obtain ⟨y,s⟩:=star.pure (l:=(λ h=>r/\q h)::l) (i:=0) (q:=q) s (by simp)
 exact ⟨y,⟨m,h1,j,x,s⟩⟩
end
theorem star.app:∀ {l l':List SP} {h:Hl},star (l++l') h->star (star l::l') h
 | [],_,h,s=>⟨λ _=>none,h,trivial,s,(λ _ _ e=>by cases e),Sub.refl h,λ _=>.inl rfl⟩
 | p::l,l',h,⟨h1,h2,a,b,c,d,e⟩=>by
  obtain ⟨h3,h4,a',b',c',d',e'⟩:=star.app (l:=l) b
  refine ⟨h1.or h3,h4,⟨h1,h3,a,a',λ _ _ e=>Hl.or_left e,λ n o q=>?_,e.sub c'⟩,b',λ n o q=>?_,d'.trans d,λ n=>?_⟩
  ·rcases e n with e1 | e1
   ·rw [Hl.or_right e1];exact q
   ·rw [c' n o q] at e1;cases e1
  ·unfold Hl.or at q
   split at q
   ·rename_i h5;cases q;exact c n _ h5
   ·exact d n o (c' n o q)
  ·rcases e n with e1 | e1
   ·rcases e' n with e2 | e2
    ·exact .inl (by rw [Hl.or_right e1];exact e2)
    ·exact .inr e2
   ·exact .inr (d'.none e1)
theorem star.flat:∀ {l l':List SP} {h:Hl},star (star l::l') h->star (l++l') h
 | [],_,_,⟨_,_,_,b,_,d,_⟩=>b.sub d
 | p::l,l',h,⟨h1,h2,⟨h3,h4,a,a',c1,c2,c3⟩,b,c,d,e⟩=>by
  refine ⟨h3,h4.or h2,a,star.flat (l:=l) ⟨h4,h2,a',b,λ _ _ e=>Hl.or_left e,λ n o q=>?_,e.symm.sub c2 |>.symm⟩,c1.trans c,λ n o q=>?_,λ n=>?_⟩
  ·rcases e n with e1 | e1
   ·rw [Hl.or_right (c2.none e1)];exact q
   ·rw [q] at e1;cases e1
  ·unfold Hl.or at q
   split at q
   ·rename_i h5;cases q;exact c n _ (c2 n _ h5)
   ·exact d n o q
  ·rcases c3 n with e1 | e1
   ·exact .inl e1
   ·rcases e n with e2 | e2
    ·exact .inl (c1.none e2)
    ·exact .inr (by rw [Hl.or_right e1];exact e2)
theorem Bt.flat {W w:World} {h:Hl} {l l':List SP} (B:Bt W h (star l::l') w):Bt W h (l++l') w:=⟨B.t.mono λ _ s=>s.flat⟩
theorem Bt.app {W w:World} {h:Hl} (l:List SP) {l':List SP} (B:Bt W h (l++l') w):Bt W h (star l::l') w:=⟨B.t.mono λ _ s=>s.app⟩
class Szw (w:World) (n:outParam Nat):Prop where
 h:w.heap.size=n
instance (priority:=low) szSelf (w:World):Szw w w.heap.size:=⟨rfl⟩
instance szAlloc (w:World) (o:Obj) (n:Nat) [k:Szw w n]:Szw (w.alloc o) (n+1):=⟨by rw [World.size_alloc,k.h]⟩
instance szSet (w:World) (a:Addr) (v:Value) (n:Nat) [k:Szw w n]:Szw (w.setCell a v) n:=⟨by rw [World.size_setCell,k.h]⟩
instance szRow (w:World) (b:Nat) (X:Array Value) (n:Nat) [k:Szw w n]:Szw (w.setRow b X) n:=⟨by rw [setRow_size,k.h]⟩
class AtL (l:List SP) (n:Nat) (cs:outParam (Array Value)):Prop where
 e:∃ (i:Nat) (t:TypeId),l[i]?=some (BlkP n cs t)
instance atHead (l:List SP) (n:Nat) (cs:Array Value) (t:TypeId):AtL (BlkP n cs t::l) n cs:=⟨0,t,rfl⟩
instance (priority:=low) atTail (p:SP) (l:List SP) (n:Nat) (cs:Array Value) [k:AtL l n cs]:AtL (p::l) n cs:=by obtain ⟨i,t,e⟩:=k.e;exact ⟨i+1,t,e⟩
class SetL (l:List SP) (n:Nat) (f:Array Value->Array Value) (l':outParam (List SP)):Prop where
 e:∃ (i:Nat) (cs:Array Value) (t:TypeId),l[i]?=some (BlkP n cs t)/\l'=l.set i (BlkP n (f cs) t)
instance setHead (l:List SP) (n:Nat) (f:Array Value->Array Value) (cs:Array Value) (t:TypeId):SetL (BlkP n cs t::l) n f (BlkP n (f cs) t::l):=⟨0,cs,t,rfl,rfl⟩
instance (priority:=low) setTail (p:SP) (l l':List SP) (n:Nat) (f:Array Value->Array Value) [k:SetL l n f l']:SetL (p::l) n f (p::l'):=by obtain ⟨i,cs,t,e,rfl⟩:=k.e;exact ⟨i+1,cs,t,e,rfl⟩
class Foc (l:List SP) (p:SP) (k:outParam (SP->List SP)):Prop where
 e:∃ i:Nat,l[i]?=some p/\∀ q,k q=l.set i q
instance focHead (l:List SP) (p:SP):Foc (p::l) p (λ q=>q::l):=⟨0,rfl,λ _=>rfl⟩
instance (priority:=low) focTail (r:SP) (l:List SP) (p:SP) (f:SP->List SP) [k:Foc l p f]:Foc (r::l) p (λ q=>r::f q):=by obtain ⟨i,e,h⟩:=k.e;exact ⟨i+1,e,λ q=>by rw [h];rfl⟩
class MemL (l:List SP) (p:SP):Prop where
 e:∃ i:Nat,l[i]?=some p
instance memHead (l:List SP) (p:SP):MemL (p::l) p:=⟨0,rfl⟩
instance (priority:=low) memTail (r:SP) (l:List SP) (p:SP) [k:MemL l p]:MemL (r::l) p:=by obtain ⟨i,e⟩:=k.e;exact ⟨i+1,e⟩
section
variable {W w:World} {h:Hl} {l:List SP}
instance btAlloc (n:Nat) (cs:Array Value) (t:TypeId) [B:Bt W h l w] [z:Szw w n]:Bt W h (BlkP n cs t::l) (w.alloc (.cells cs t)):=⟨by have e:=z.h;subst e;exact B.t.push _ (one_same _ _)⟩
instance (priority:=low) btAllocO (o:Obj) [B:Bt W h l w]:Bt W h l (w.alloc o):=⟨B.t.of_alloc o⟩
instance btGr (g:Gr) [B:Bt W h l w]:Bt W h l (gr w g):=⟨B.t.gr g⟩
theorem Turns.drew' {W w:World} {h:Hl} {P:Hl->Prop} (T:Turns W h P w):Turns W h P w.drew:=by
 obtain ⟨m,h1,i,x,p⟩:=T
 exact ⟨m.drew,h1,ii,x,p⟩
instance btDrew [B:Bt W h l w]:Bt W h l w.drew:=⟨B.t.drew'⟩
instance btSet {l':List SP} (n k:Nat) (v:Value) [B:Bt W h l w] [s:SetL l n (λ cs=>cs.setIfInBounds k v) l']:Bt W h l' (w.setCell ⟨n,k,none⟩ v):=by
 obtain ⟨i,cs,t,e,rfl⟩:=s.e
 exact ⟨B.t.turn e λ h p i=>p.set k v w⟩
theorem BlkP.setRow {b:Nat} {cs X:Array Value} {t:TypeId} {h:Hl} (p:BlkP b cs t h) (w:World) [i:Has w h]:Turns w h (BlkP b X t) (w.setRow b X):=by
 have hb:w.heap[b]?=some (.cells cs t (0,0)):=i.get _ _ p
 refine ⟨⟨rfl,rfl,rfl,by rw [setRow_size];exact Nat.le_refl _,λ k hk e=>setRow_other w b k X (λ e2=>by rw [e2,show h b=_ from p] at e;cases e)⟩,h.put b (.cells X t),⟨λ m o e=>?_⟩,λ n hn e=>?_,Hl.put_same ..⟩
 ·by_cases hm:m=b
  ·subst hm
   rw [Hl.put_same] at e
   cases e
   exact setRow_heap w m cs X t (0,0) hb
  ·rw [Hl.put_other _ _ hm] at e
   rw [setRow_other w b m X hm]
   exact i.get m o e
 ·by_cases hm:n=b
  ·subst hm;rw [show h n=_ from p] at e;cases e
  ·rw [Hl.put_other _ _ hm];exact e
instance btRow {l':List SP} (n:Nat) (X:Array Value) [B:Bt W h l w] [s:SetL l n (λ _=>X) l']:Bt W h l' (w.setRow n X):=by
 obtain ⟨i,cs,t,e,rfl⟩:=s.e
 exact ⟨B.t.turn e λ h p i=>p.setRow w⟩
theorem Bt.cls {w':World} (B:Bt W h l w) (c:Cls w w'):Bt W h l w':=by
 obtain ⟨g,rfl⟩:=c
 infer_instance
theorem btCls {w':World} [B:Bt W h l w] (c:Cls w w'):Bt W h l w':=B.cls c
instance (priority:=low) cellsBt (n:Nat) (cs:Array Value) [B:Bt W h l w] [a:AtL l n cs]:CellsIn w n cs:=by
 obtain ⟨i,t,e⟩:=a.e
 obtain ⟨h0,p,j⟩:=B.mem e
 exact ⟨t,j.get _ _ p⟩
instance (priority:=low) oldBt (n:Nat) (cs:Array Value) [B:Bt W h l w] [a:AtL l n cs]:Old n w:=CellsIn.old (cs:=cs) (cellsBt n cs)
instance (priority:=low) inBt (p:SP) [B:Bt W h l w] [m:MemL l p]:In p w:=by
 obtain ⟨i,e⟩:=m.e
 obtain ⟨h0,p,j⟩:=B.mem e
 exact ⟨h0,p,j⟩
theorem Bt.fin {p:SP} [B:Bt W h l w] [m:MemL l p]:Turns W h p w:=by
 obtain ⟨i,e⟩:=m.e
 exact B.fin_at i e
end
def Tq (f:FuncId) (args:Array Value) (p:SP) (R:Value->SP->Prop):Prop:=∀ W h,Has W h->p h->Calls Tryz.prog f args W λ e w'=>∃ v q,e=.returned v/\R v q/\Turns W h q w'
theorem Tq.mono {f:FuncId} {args:Array Value} {p:SP} {R R':Value->SP->Prop} (t:Tq f args p R) (h:∀ v q,R v q->∃ q',R' v q'/\∀ h,q h->q' h):Tq f args p R':=λ W hh i s =>
 (t W hh i s).mono λ _ _ ⟨v,q,e,r,T⟩=>by
  obtain ⟨q',r',k⟩:=h v q r
  exact ⟨v,q',e,r',T.mono k⟩
theorem Tu.q {f:FuncId} {args:Array Value} {p:SP} {q:Value->SP} (t:Tu f args p q):Tq f args p λ v q'=>q'=q v:=λ W h i s=>(t W h i s).mono λ _ _ ⟨v,e,T⟩=>⟨v,_,e,rfl,T⟩
theorem Tu.qv {f:FuncId} {args:Array Value} {p q:SP} {v:Value} (t:Tu f args p λ v' h=>v'=v/\q h):Tq f args p λ v' q'=>v'=v/\q'=q:=λ W h i s=>(t W h i s).mono λ _ _ ⟨v',e,m,h',i',x,e2,hq⟩=>⟨v',q,e,⟨e2,rfl⟩,m,h',i',x,hq⟩
theorem Bt.call {f:FuncId} {args:Array Value} {p:SP} {R:Value->SP->Prop} (t:Tq f args p R) {W w:World} {h:Hl} {l:List SP} {k:SP->List SP} [B:Bt W h l w] [m:Foc l p k]:Calls Tryz.prog f args w λ e w'=>∃ v q,e=.returned v/\R v q/\Bt W h (k q) w':=by
 obtain ⟨m',h1,j,x,s⟩:=B.t
 obtain ⟨i,e,hk⟩:=m.e
 obtain ⟨h0,a,b,c⟩:=s.focus e
 refine (t w h0 (j.sub b) a).mono λ e' w' ⟨v,q,ev,r,T⟩=>⟨v,q,ev,r,?_⟩
 rw [hk]
 exact ⟨Turns.after m' x ((T.frame j b).mono λ h' ⟨h1,q1,q2,q3⟩=>c q h1 h' q1 q2 q3)⟩
theorem Tq.of {f:FuncId} {args:Array Value} {p:SP} {R:Value->SP->Prop} (k:∀ W h,Bt W h [p] W->Calls Tryz.prog f args W λ e w'=>∃ v q,e=.returned v/\R v q/\Turns W h q w'):Tq f args p R:=λ W h i s=>k W h (Bt.start s)
theorem btI {W w:World} {h:Hl} {l:List SP} {G:World->Prop} [B:Bt W h l w] (k:∀ w2,Bt W h l w2->G w2):∀ w2,Cls w w2->G w2:=λ w2 c=>k w2 (B.cls c)
theorem wrc_other:∀ {l:List (Col × ByteArray)} {F:Nat->Nat->ByteArray} {d a:Nat},(∀ x∈l,¬(x.1.dev.toNat=d/\x.1.at_.toNat=a))->wrc F l d a=F d a
 | [],_,_,_,_=>rfl
 | x::l,F,d,a,h=>by
  show wrc (upd2 F x.1.dev.toNat x.1.at_.toNat x.2) l d a=F d a
  rw [wrc_other λ y hy=>h y (by simp [hy])]
  have:=h x (by simp)
  unfold upd2
  split
  ·rename_i e
   unfold updS
   rw [if_neg λ e2=>this ⟨e.symm,e2.symm⟩,e]
  ·rfl
theorem wrc_at:∀ {l:List (Col × ByteArray)} {F:Nat->Nat->ByteArray} {k:Nat} {x:Col × ByteArray},l[k]?=some x->(∀ j y,l[j]?=some y->y.1.dev.toNat=x.1.dev.toNat->y.1.at_.toNat=x.1.at_.toNat->j=k)->wrc F l x.1.dev.toNat x.1.at_.toNat=x.2
 | [],_,_,_,h,_=>by simp at h
 | y::l,F,0,x,h,hi=>by
  obtain rfl:y=x:=by simpa using h
  show wrc (upd2 F y.1.dev.toNat y.1.at_.toNat y.2) l _ _=_
  rw [wrc_other λ z hz e=>by
   obtain ⟨j,hj⟩:=List.getElem?_of_mem hz
   have:=hi (j+1) z (by simpa using hj) e.1 e.2
   omega]
  simp [upd2,updS]
 | y::l,F,k+1,x,h,hi=>by
  show wrc (upd2 F y.1.dev.toNat y.1.at_.toNat y.2) l _ _=_
  exact wrc_at (by simpa using h) λ j z hj e1 e2=>by have:=hi (j+1) z (by simpa using hj) e1 e2;omega
def putAt (s:Slc) (F:Nat->Nat->ByteArray) (g a z:Nat) (t:ByteArray):Nat->Nat->ByteArray:=wrc F ((colL s g a z).zip (encL (colL s g a z) (sects t z)))
def HeldAt (s:Slc) (F:Nat->Nat->ByteArray) (g a z:Nat) (t:ByteArray):Prop:=∀ (k:Nat) (c:Col) (e:ByteArray),(colL s g a z)[k]?=some c->(encL (colL s g a z) (sects t z))[k]?=some e->F c.dev.toNat c.at_.toNat=e
theorem held_put {s:Slc} {secs:Int} (h:goodG s secs) (F:Nat->Nat->ByteArray) {g a z:Nat} (hg:g < s.len) (hz:1<=z/\z<=4) (t:ByteArray):HeldAt s (putAt s F g a z t) g a z t:=by
 intro k c e hc he
 have hx:((colL s g a z).zip (encL (colL s g a z) (sects t z)))[k]?=some (c,e):=(List.getElem?_zip_eq_some (z:=(c,e))).2 ⟨hc,he⟩
 refine wrc_at hx λ j y hj e1 e2=>?_
 obtain ⟨h1,_⟩:=(List.getElem?_zip_eq_some (z:=y)).1 hj
 have p:=colL_at h hg hz h1
 have q:=colL_at h hg hz hc
 have f0:=sumW_le h g (by omega)
 refine colL_inj h hg hz h1 hc ?_ ?_
 ·dsimp only at e1;omega
 ·dsimp only at e2;omega
theorem held_other {s:Slc} {secs:Int} (h:goodG s secs) {F:Nat->Nat->ByteArray} {g a z g' a' z':Nat} (hg:g < s.len) (hg':g' < s.len) (hz:1<=z/\z<=4) (hz':1<=z'/\z'<=4) {t:ByteArray} (t':ByteArray)
  (hap:g=g'->∀ u:Nat,(a<=u/\(u:Int) < a+takeOf (s.x g) (s.y g) z)->(a'<=u/\(u:Int) < a'+takeOf (s.x g) (s.y g) z')->False) (hh:HeldAt s F g a z t):HeldAt s (putAt s F g' a' z' t') g a z t:=by
 intro k c e hc he
 rw [<-hh k c e hc he]
 refine wrc_other λ x hx e2=>?_
 obtain ⟨j,hj⟩:=List.getElem?_of_mem hx
 obtain ⟨h1,_⟩:=(List.getElem?_zip_eq_some (z:=x)).1 hj
 have p:=colL_at h hg' hz' h1
 have q:=colL_at h hg hz hc
 have f0:=sumW_le h g (by omega)
 have f1:=sumW_le h g' (by omega)
 rcases colL_apart h hg hg' hz hz' hap hc h1 with h2 | h2 <;> omega
structure Held (s:Slc) (secs:Int) (F:Nat->Nat->ByteArray) (p:Pt) (t:ByteArray):Prop where
 ok:PtOk s secs p
 fit:p.fit
 size:t.size=64*p.size.toNat
 sum:sum4 t=p.sum
 at_:HeldAt s F p.ag.toNat p.aa.toNat p.size.toNat t
def takesAt (s:Slc) (p:Pt) (g u:Nat):Prop:=g=p.ag.toNat/\p.aa.toNat<=u/\(u:Int) < p.aa.toNat+takI s p.ag p.size
structure Kept1 (s:Slc) (secs:Int) (F:Nat->Nat->ByteArray) (U:Nat->Nat->Prop) (K:KS):Prop where
 held:∀ p t,K p t->Held s secs F p t
 used:∀ p t,K p t->∀ g u,takesAt s p g u->U g u
 uni:∀ p q t t',K p t->K q t'->p.ag=q.ag->p.aa=q.aa->p=q
theorem PtOk.in_ {s:Slc} {secs:Int} (h:goodG s secs) {p:Pt} (o:PtOk s secs p):∃ g a z:Nat,p.ag=g/\p.aa=a/\p.size=z/\g < s.len/\(1<=z/\z<=4)/\mayB s secs g a z=true:=by
 haveI:Geo s secs:=⟨h⟩
 have hm:=o.a
 obtain ⟨⟨g0,g1⟩,⟨z0,z1⟩,a0,a1⟩:=may_in hm
 obtain ⟨g,hg⟩:=Int.eq_ofNat_of_zero_le g0
 obtain ⟨a,ha⟩:=Int.eq_ofNat_of_zero_le a0
 obtain ⟨z,hz⟩:=Int.eq_ofNat_of_zero_le (show 0<=p.size by omega)
 rw [hg,ha,hz] at hm
 exact ⟨g,a,z,hg,ha,hz,by omega,by omega,hm⟩
theorem takI_nat {s:Slc} {g z:Nat} (hg:g < s.len) (hz:1<=z/\z<=4):takI s g z=takeOf (s.x g) (s.y g) z:=by
 unfold takI
 rw [if_pos ⟨by omega,by omega,by omega,by omega⟩,Int.toNat_natCast]
theorem Kept1.put {s:Slc} {secs:Int} (h:goodG s secs) {F:Nat->Nat->ByteArray} {U:Nat->Nat->Prop} {K:KS} (k:Kept1 s secs F U K) {g a z:Nat} (hg:g < s.len) (hz:1<=z/\z<=4) (t:ByteArray)
  (hU:∀ u:Nat,a<=u->(u:Int) < a+takI s g z->¬U g u):Kept1 s secs (putAt s F g a z t) U K:=by
 refine ⟨λ p t' hp=>?_,k.used,k.uni⟩
 have hl:=k.held p t' hp
 obtain ⟨g',a',z',e1,e2,e3,h1,h2,h3⟩:=hl.ok.in_ h
 refine ⟨hl.ok,hl.fit,hl.size,hl.sum,?_⟩
 have ha:=hl.at_
 rw [e1,e2,e3,Int.toNat_natCast,Int.toNat_natCast,Int.toNat_natCast] at ha ⊢
 refine held_other h h1 hg h2 hz t (λ e u hu hu'=>?_) ha
 subst e
 rw [takI_nat hg hz] at hU
 refine hU u hu'.1 hu'.2 (k.used p t' hp _ u ⟨by rw [e1];rfl,by rw [e2];exact hu.1,?_⟩)
 rw [e1,e3,takI_nat h1 h2,e2]
 exact hu.2
theorem Kept1.more {s:Slc} {secs:Int} {F:Nat->Nat->ByteArray} {U U':Nat->Nat->Prop} {K:KS} (k:Kept1 s secs F U K) (h:∀ g u,U g u->U' g u):Kept1 s secs F U' K:=⟨k.held,λ p t hp g u e=>h g u (k.used p t hp g u e),k.uni⟩
theorem Kept1.add {s:Slc} {secs:Int} {F:Nat->Nat->ByteArray} {U:Nat->Nat->Prop} {K:KS} (k:Kept1 s secs F U K) {p:Pt} {t:ByteArray} (hp:Held s secs F p t) (hu:∀ g u,takesAt s p g u->U g u) (hq:∀ q u,K q u->q.ag=p.ag->q.aa=p.aa->False):Kept1 s secs F U (K.add p t) :=
 ⟨λ q u h=>by rcases h with h | ⟨rfl,rfl⟩;exact k.held _ _ h;exact hp,λ q u h=>by rcases h with h | ⟨rfl,rfl⟩;exact k.used _ _ h;exact hu,
  λ q r u v h h' e e'=>by rcases h with h | ⟨rfl,rfl⟩ <;> rcases h' with h' | ⟨rfl,rfl⟩;exact k.uni _ _ _ _ h h' e e';exact (hq _ _ h e e').elim;exact (hq _ _ h' e.symm e'.symm).elim;rfl⟩
def entry (D:Nat->Option Nd) (id:Nat):ByteArray:=match D id with
 | some m=>m.bytes
 | none=>⟨#[]⟩
def Dr (K:KS) (n:Nd) (D:Nat->Option Nd):Prop:=∃ g,Ob K n g/\(∀ id j:Nat,id < 32->j < 128->g (id*128+j)=byteAt (entry D id) j)/\∀ id m,D id=some m->NFit m
theorem Dr.mono {K K':KS} {n:Nd} {D:Nat->Option Nd} (h:Dr K n D) (k:K.le K'):Dr K' n D:=by
 obtain ⟨g,a,b⟩:=h
 exact ⟨g,a.mono k,b⟩
theorem Dr.none (K:KS):Dr K Nd.none λ _=>Option.none:=⟨_,Ob.none K,λ id j _ _=>by rw [entry,byteAt_ge];exact Nat.zero_le _,λ _ _ h=>by cases h⟩
def entry' (D:Nat->Option Nd) (id:Nat):ByteArray:=match D id with
 | some m=>m.bytes
 | none=>zerosB 128
theorem ba_eq_of {a b:ByteArray} {n:Nat} (ha:a.size=n) (hb:b.size=n) (h:∀ j,j < n->byteAt a j=byteAt b j):a=b:=by
 rw [txt_of (g:=byteAt b) (off:=0) ha (λ j hj=>by rw [h j hj,Nat.zero_add]),<- txt_of (g:=byteAt b) (off:=0) hb (λ j hj=>by rw [Nat.zero_add])]
def updN {α:Type} (D:Nat->α) (k:Nat) (v:α) (j:Nat):α:=if j=k then v else D j
theorem Dr.put {K:KS} {n n':Nd} {D:Nat->Option Nd} {g g':Nat->UInt8} {k:Nat} {s:ByteArray} {m:Option Nd} (hg:∀ id j:Nat,id < 32->j < 128->g (id*128+j)=byteAt (entry D id) j) (hD:∀ id m,D id=some m->NFit m) (o:Ob K n' g') (hs:s.size=128)
  (hw:∀ j,g' j=wrB g (k*128) s j) (hm:∀ j,j < 128->byteAt s j=byteAt (match m with | some m=>m.bytes | Option.none=>⟨#[]⟩) j) (hf:∀ x,m=some x->NFit x):Dr K n' (updN D k m):=by
 refine ⟨g',o,λ id j hid hj=>?_,λ id x h=>?_⟩
 ·rw [hw,wrB,hs]
  by_cases e:id=k
  ·subst e
   rw [if_pos (by omega),show id*128+j - id*128=j by omega,hm j hj]
   unfold entry updN
   rw [if_pos rfl]
  ·rw [if_neg (by omega),hg id j hid hj]
   unfold entry updN
   rw [if_neg e]
 ·unfold updN at h
  split at h
  ·exact hf x h
  ·exact hD id x h
def ObT (K:KS) (m:Nd) (t:ByteArray):Prop:=∃ g,Ob K m g/\t=txt g 0 m.size.toNat
theorem ObT.mono {K K':KS} {n:Nd} {t:ByteArray} (h:ObT K n t) (k:K.le K'):ObT K' n t:=by
 obtain ⟨g,a,b⟩:=h
 exact ⟨g,a.mono k,b⟩
abbrev Objs:=Nat->Option ByteArray
def DrT (K:KS) (n:Nd) (T:Objs):Prop:=∃ D,Dr K n D/\∀ id,id < 32->(∀ m,D id=some m->∃ t,T id=some t/\ObT K m t)/\(D id=none->T id=none)
theorem DrT.mono {K K':KS} {n:Nd} {T:Objs} (h:DrT K n T) (k:K.le K'):DrT K' n T:=by
 obtain ⟨D,a,b⟩:=h
 exact ⟨D,a.mono k,λ id hid=>⟨λ m hm=>by obtain ⟨t,h1,h2⟩:=(b id hid).1 m hm;exact ⟨t,h1,h2.mono k⟩,(b id hid).2⟩⟩
theorem DrT.none (K:KS):DrT K Nd.none λ _=>Option.none:=⟨_,Dr.none K,λ _ _=>⟨λ _ h=>(by cases h),λ _=>rfl⟩⟩
def wrT (t:ByteArray) (off:Nat) (s:ByteArray):ByteArray:=txt (wrB (byteAt t) off s) 0 (max t.size (if s.size=0 then 0 else off+s.size))
def cutT (t:ByteArray) (n:Nat):ByteArray:=txt (byteAt t) 0 n
theorem ob_at {K:KS} {m:Nd} {g:Nat->UInt8} (o:Ob K m g):byteAt (txt g 0 m.size.toNat)=g:=by
 funext j
 by_cases h:j < m.size.toNat
 ·rw [txt_at h,Nat.zero_add]
 ·rw [byteAt_ge (by rw [txt_size];omega),o.z j (by have:=o.sz;omega)]
theorem sortR_len {z:Nat}:∀ {l:List Run} {a:Nat},SortR z l->(∀ r∈l,a<=r.1)->l.length<=z - a
 | [],_,_,_=>Nat.zero_le _
 | r::l,a,h,ha=>by
  have hp:=List.pairwise_cons.1 h.pw
  have h1:=sortR_len (l:=l) (a:=r.1+r.2) ⟨hp.2,λ q hq=>h.pos q (by simp [hq])⟩ hp.1
  have h2:=h.pos r (by simp)
  have h3:=ha r (by simp)
  simp only [List.length_cons]
  omega
def runC (l:List Run):List (List Value):=l.map λ r=>[.int .i64 (r.1:Int),.int .i64 (r.2:Int)]
theorem runC_len (l:List Run):(runC l).length=l.length:=by simp [runC]
theorem runC_z (l:List Run):∀ x∈runC l,x.length=2:=by
 intro x hx
 obtain ⟨r,_,rfl⟩:=List.mem_map.1 hx
 rfl
theorem runC_get {l:List Run} {k:Nat} {r:Run} (h:l[k]?=some r):(runC l)[k]?=some [.int .i64 (r.1:Int),.int .i64 (r.2:Int)]:=by simp [runC,h]
theorem runC_one (l:List Run):∀ x∈runC l,∀ v∈x,v.oneCell'=true:=by
 intro x hx v hv
 obtain ⟨r,_,rfl⟩:=List.mem_map.1 hx
 simp only [List.mem_cons,List.not_mem_nil,or_false] at hv
 rcases hv with rfl | rfl <;> rfl
def MapP (mb z:Nat) (l:List Run):SP:=λ h=>(SortR z l/\1<=z/\z<=65536)/\∃ ad n cap,star [BlkP mb #[.int .i64 (z:Int),.slice ad n cap] 204,SlP 207 2 ad n cap (runC l)] h
class IsMap (mb:Nat) (z:outParam Nat) (l:outParam (List Run)) (w:World):Prop where
 i:In (MapP mb z l) w
instance isMapAlloc (mb z:Nat) (l:List Run) (W:World) (o:Obj) [k:IsMap mb z l W]:IsMap mb z l (W.alloc o):=by have:=k.i;exact ⟨ii⟩
instance isMapGr (mb z:Nat) (l:List Run) (W:World) (g:Gr) [k:IsMap mb z l W]:IsMap mb z l (gr W g):=by have:=k.i;exact ⟨ii⟩
section
variable (mb z:Nat) (l:List Run) (W:World) [D:IsMap mb z l W]
theorem map_facts:SortR z l/\(1<=z/\z<=65536)/\Old mb W/\∃ ad n cap,W.cell? ⟨mb,0,none⟩=some (.int .i64 (z:Int))/\W.cell? ⟨mb,1,none⟩=some (.slice ad n cap)/\n=l.length/\n<=cap/\n<=65536/\(ad=none->cap=0)/\RdS 2 ad n cap (runC l) W:=by
 obtain ⟨h,⟨⟨ok,hz⟩,ad,n,cap,s⟩,hw⟩:=D.i.ex
 obtain ⟨h1,p1,s1⟩:=s.get (i:=0) rfl
 obtain ⟨h2,p2,s2⟩:=s.get (i:=1) rfl
 haveI:=hw.sub s1
 haveI:=hw.sub s2
 have hn:n=l.length:=by rw [<-p2.1,runC_len]
 have:=sortR_len (a:=0) ok (by simp)
 have hc:ad=none->cap=0:=λ e=>by
  rcases p2.2.2 with ⟨_,_,h⟩ | ⟨g,e2,_⟩
  ·exact h
  ·rw [e] at e2;cases e2
 exact ⟨ok,hz,Has.old p1,ad,n,cap,Has.cell p1,Has.cell p1,hn,p2.cap,by omega,hc,p2.rd W⟩
include D in
set_option maxRecDepth 512 in
theorem smay_fn (at_ n:Nat) (h1:1<=n) (h2:at_+n<=z):Fn 187 #[.pointer (some ⟨mb,0,none⟩),.int .i64 at_,.int .i64 n] W (.bool true):=by
 refine ⟨?_⟩
 obtain ⟨ok,hz,ho,ad,k,cap,c0,c1,_⟩:=map_facts mb z l W
 have e1:decide ((1:Int)<=n)=true:=by simp;omega
 have e2:decide ((0:Int)<=at_)=true:=by simp
 have e3:decide ((at_:Int)<=(z:Int) - 1)=true:=by simp;omega
 have e4:decide ((n:Int)<=(z:Int) - at_)=true:=by simp;omega
 go_enter Tryz.func187,Tryz.ntmps187
 go_wp2_with fail
 go_ret
 exact Ret.mk rfl grown
omit D in
set_option maxRecDepth 512 in
theorem first1_at (b:Nat) (at_:Nat) (r:Run) (W:World) [Old b W] (h1:(r.1:Int)+r.2<=100000) (c0:W.cell? ⟨b,0,none⟩=some (.int .i64 at_)):Calls Tryz.prog 230 #[.agg #[.int .i64 r.1,.int .i64 r.2],.pointer (some ⟨b,0,none⟩)] W (Ret (.bool (decide (at_ < r.1+r.2))) W):=by
 have e:decide (at_ < r.1+r.2)=decide ((at_:Int) < (r.1:Int)+r.2):=by simp [<-Int.natCast_add]
 rw [e]
 go_enter Tryz.func230,Tryz.ntmps230
 go_wp2_with fail
 go_ret
 exact Ret.mk rfl grown
def runP (at_:Nat) (x:List Value):Bool:=match x with
 | [.int .i64 a,.int .i64 b]=>decide ((at_:Int) < a+b)
 | _=>false
omit D in
theorem runP_at (at_:Nat) (r:Run):runP at_ [.int .i64 r.1,.int .i64 r.2]=decide (at_ < r.1+r.2):=by
 show decide ((at_:Int) < (r.1:Int)+r.2)=_
 simp [<-Int.natCast_add]
omit D in
theorem runP_ix (at_:Nat) (l:List Run):ixI (runP at_) (runC l)=if firstR l at_ < l.length then (firstR l at_:Int) else -1:=by
 have e:(runP at_ ∘ λ r:Run=>[Value.int .i64 r.1,.int .i64 r.2])=λ r=>decide (at_ < r.1+r.2):=funext λ r=>runP_at at_ r
 unfold ixI runC firstR
 rw [List.any_map,List.findIdx_map,e]
 by_cases h:l.findIdx (λ r=>decide (at_ < r.1+r.2)) < l.length
 ·rw [if_pos h,if_pos (List.any_eq_true.2 ⟨_,List.getElem_mem h,List.findIdx_getElem (w:=h)⟩)]
 ·rw [if_neg h,if_neg]
  intro h2
  obtain ⟨x,hx,hp⟩:=List.any_eq_true.1 h2
  exact h (List.findIdx_lt_length_of_exists ⟨x,hx,hp⟩)
include D in
set_option maxRecDepth 512 in
theorem first_fn (at_:Nat) (ha:at_<=65536):Fn 188 #[.pointer (some ⟨mb,0,none⟩),.int .i64 at_] W (.int .i64 (firstR l at_:Nat)):=by
 refine ⟨?_⟩
 obtain ⟨ok,hz,ho,ad,k,cap,c0,c1,hn,hc,h6,_,R⟩:=map_facts mb z l W
 have hle:=firstR_le l at_
 subst hn
 have HX:∀ (W':World) (b:Nat),[RdS 2 ad l.length cap (runC l) W']->W'.cell? ⟨b,0,none⟩=some (.int .i64 at_)->[Old b W']->Fn 229 #[.slice ad l.length cap,.func (.func 230) #[] #[.pointer (some ⟨b,0,none⟩)]] W' (.int .i64 (ixI (runP at_) (runC l))):=λ W' b _ c0 _=>ixpU ad l.length cap (runC l) W' (by omega) _ (by kernel_rfl) _ (runP at_) (λ x hx g=>by
  obtain ⟨r,hr,rfl⟩:=List.mem_map.1 hx
  rw [runP_at]
  have:=ok.pos r hr
  exact first1_at b at_ r (gr W' g) (by omega) (by rw [cell_gr];exact c0)) (runC_z l)
 rw [runP_ix] at HX
 go_enter Tryz.func188,Tryz.ntmps188
 by_cases h:firstR l at_ < l.length
 ·rw [if_pos h] at HX
  go_wp2_with fail
  refine @Fn.go _ _ _ _ _ (HX _ _ (by simp [go_sem])) λ g=>?_
  dsimp only
  go_wp2_with fail
  go_ret
  exact Ret.mk rfl grown
 ·rw [if_neg h] at HX
  obtain hle:firstR l at_=l.length:=by omega
  rw [hle]
  go_wp2_with fail
  refine @Fn.go _ _ _ _ _ (HX _ _ (by simp [go_sem])) λ g=>?_
  dsimp only
  go_wp2_with fail
  go_ret
  exact Ret.mk rfl grown
end
theorem grow_at (n:Nat) (h1:1<=n) (h2:n<=1000000) (W:World):Calls Tryz.prog 231 #[.slice none 0 0,.int .i64 n] W λ e w'=>∃ g cap,e=.returned (.slice (some ⟨g,0,none⟩) 0 cap)/\OwnS 207 2 (some ⟨g,0,none⟩) 0 cap [] w' W:=by
 obtain ⟨i,hi,hz,hs,hb⟩:∃ i,Tryz.prog.info? 207=some i/\i.zero=some (.agg #[.int .i64 0,.int .i64 0])/\i.size=2/\i.bytes=16:=by
  have:(Tryz.prog.info? 207).map (λ i=>(i.zero,i.size,i.bytes))=some (some (.agg #[.int .i64 0,.int .i64 0]),2,16):=by kernel_rfl
  cases hq:Tryz.prog.info? 207 with
  | none=>rw [hq] at this;cases this
  | some ii =>
   rw [hq] at this
   simp only [Option.map_some,Option.some.injEq,Prod.mk.injEq] at this
   exact ⟨ii,rfl,this.1,this.2.1,this.2.2⟩
 have hr:=λ (w:World) ty=>Lib.run_append_nil_zeros (P:=Tryz.prog) w 202 3 ty 207 i _ .i64 .i64 Tryz.underlying202 Tryz.underlying3 hi hz n (by omega) (by omega) (by omega) (by rw [hb];omega)
 have e1:decide ((n:Int) < 0)=false:=decide_eq_false (by omega)
 have e2:decide ((0:Int) < n)=true:=decide_eq_true (by omega)
 go_enter Tryz.func231,Tryz.ntmps231
 go_wp2_with (at_builtin;refine wpList_append_run rfl _ _ _ _ rfl _ _ rfl rfl (hr _ _) ?_)
 go_ret
 refine ⟨_,_,rfl,⟨by simp,.inr ⟨W.heap.size,_,_,rfl,Nat.le_refl _,heap_alloc_new _ _,Nat.zero_le _,grownCap_le_maxLen _ _ _ _ (by unfold maxLen;omega),?_,by simp⟩⟩,gr_of_below (belowAlloc (Below.refl _ _).drew _)⟩
 have:=grownCap_ge W n 0 207
 simp [Builtin.zeroCells,Value.cells]
 omega
end Go.Proofs.YtlfjdjndhcmliaaGreatDoor
