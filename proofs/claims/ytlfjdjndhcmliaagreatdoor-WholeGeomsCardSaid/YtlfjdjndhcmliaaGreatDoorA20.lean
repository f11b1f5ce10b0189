/- WholeGeoms, part 20. -/
import Derived.Test.YtlfjdjndhcmliaaGreatDoorA19
import Derived.Test.YtlfjdjndhcmliaaGreatDoorA10
import Derived.Test.YtlfjdjndhcmliaaGreatDoorA00
set_option maxRecDepth 100000
set_option maxHeartbeats 4000000
set_option linter.all false
namespace Go.Proofs.YtlfjdjndhcmliaaGreatDoor
open Go.RowKit Go.Sort
instance (a0 a1 a2 a3:Value):ArrZ #[a0,a1,a2,a3] 4:=⟨rfl⟩
instance (a0 a1:Value):ArrZ #[a0,a1] 2:=⟨rfl⟩
instance arrZSet (cs:Array Value) (z k:Nat) (v:Value) [a:ArrZ cs z]:ArrZ (cs.setIfInBounds k v) z:=⟨by simp [a.h]⟩
section
variable (V:VD) (F:Nat->Nat->ByteArray) (W:World) [D:IsDevs V F W]
include D
theorem hbad_fn (p:Pt) (grp at_ z:Nat) (hp:p.size=z) (t:ByteArray) (ht:t.size=64*z) (hm:mayB V.s V.secs grp at_ z=true) (hE:(colL V.s grp at_ z).map (λ c=>F c.dev.toNat c.at_.toNat)=encL (colL V.s grp at_ z) (sects t z)) :
  Fn 336 #[V.v,.agg p.cs,.agg #[.int .i64 grp,.int .i64 at_],.string t] W (.slice none 0 0):=by
 refine ⟨?_⟩
 obtain ⟨ok,gm,ol,oa,_⟩:=devs_facts V F W
 haveI:Geo V.s V.secs:=⟨ok.g⟩
 obtain ⟨⟨g0,g1⟩,⟨z0,z1⟩,a0,a1⟩:=may_in hm
 have hz:1<=z/\z<=4:=by omega
 have hg:grp < V.s.len:=by omega
 obtain ⟨l1,l2⟩:=colL_len ok.g hg (at_:=at_) hz
 have hrow:RowOk (colL V.s grp at_ z):=colL_row ok.g hg _ _
 have RA:∀ w,IsDevs V F w->_:=λ w (_:IsDevs V F w)=>raw_yes V F w grp at_ z hm
 rw [hE] at RA
 have HB:∀ (adg:Option Addr) (w:World),[IsDevs V F w]->[RdS 1 adg (colL V.s grp at_ z).length (colL V.s grp at_ z).length (strC (encL (colL V.s grp at_ z) (sects t z))) w]->Fn 345 #[.agg #[.slice V.s.ad V.s.len V.s.cap,.int .i64 V.secs],.agg #[.int .i64 grp,.int .i64 at_],.string t,.slice adg (colL V.s grp at_ z).length (colL V.s grp at_ z).length] w (.slice none 0 0):=λ adg w _ _=>by
  haveI:=devs_gm V F w
  exact bad_fn V.s V.secs grp at_ z adg _ w t ht hz hm l2 (by omega) hrow
 have B:=Bt.zero W
 go_enter Tryz.func336,Tryz.ntmps336
 go_wp2_with ((with_reducible apply wpList_load);(·exact rfl);(·exact ii))
 refine (RA _ ii).mono ?_
 rintro e V1 ⟨adg,rfl,o1⟩
 have B1:=btCls o1.grw
 haveI R1:=o1.rdS
 haveI:IsDevs V F V1:=by obtain ⟨g,e⟩:=o1.grw;rw [e];infer_instance
 clear o1 RA hE
 obtain ⟨n,hn⟩:∃ n,(colL V.s grp at_ z).length=n:=⟨_,rfl⟩
 rw [hn] at R1 HB ⊢
 have hB:=below_of B1.gr_of
 dsimp only
 go_wp2_with (first | (with_reducible refine Fn.go λ g=>?_) | ((with_reducible apply wpList_load);(·exact rfl);(·exact ii)))
 go_ret
 exact Ret.mk rfl (below_of (Bt.gr_of ii))
theorem mended_fn (p:Pt) (hn:p.isNone=false) (grp at_ z:Nat) (hg:p.ag=grp) (ha:p.aa=at_) (hp:p.size=z) (t:ByteArray) (ht:t.size=64*z) (hm:mayB V.s V.secs grp at_ z=true) (hE:(colL V.s grp at_ z).map (λ c=>F c.dev.toNat c.at_.toNat)=encL (colL V.s grp at_ z) (sects t z)) :
  Fn 329 #[V.v,.agg p.cs,.string t,.int .i64 1] W (.int .i64 0):=by
 refine ⟨?_⟩
 have PA:=λ w=>places_at p hn w
 simp only [plC,hg,ha] at PA
 have HB:∀ w,[IsDevs V F w]->Fn 336 #[V.v,.agg p.cs,.agg #[.int .i64 grp,.int .i64 at_],.string t] w (.slice none 0 0):=λ w _=>hbad_fn V F w p grp at_ z hp t ht hm hE
 have HM:∀ w,[IsDevs V F w]->Fn 335 #[V.v,.agg #[.int .i64 grp,.int .i64 at_],.string t,.slice none 0 0] w (.int .i64 0):=λ w _=>mend_fn V F w grp at_ z t ht hm
 have B:=Bt.zero W
 clear hE hg ha hp hm
 go_enter Tryz.func329,Tryz.ntmps329
 go_wp2_with ((with_reducible apply wpList_load);(·exact rfl);(·exact ii))
 refine (PA _).mono ?_
 rintro e V1 ⟨b,n,rfl,hnn,R1,hg⟩
 have B1:=btCls hg
 haveI:IsDevs V F V1:=by obtain ⟨g,e⟩:=hg;rw [e];infer_instance
 have h1n:1<=n:=by rw [hnn];split <;> omega
 obtain ⟨b',o',e',hb,hcl⟩:=R1.cells 0 _ rfl
 cases e'
 have v0:=hcl 0 _ rfl
 have v1:=hcl 1 _ rfl
 clear hnn R1 hcl PA hg
 dsimp only
 go_wp2_with fail
 go_loopw [9,17] (λ m i wr=>m=.int .i64 0/\(i=.int .i64 0\/i=.int .i64 1)/\∃ g,wr=gr V1 g)
  (λ _ i _=>2 - (intOf i).toNat)
 case atStart=>exact ⟨rfl,.inl rfl,ex_gr V1⟩
 case round =>
  obtain ⟨rfl,rfl | rfl,hg⟩:=hrel
  ·have B2:=B1.cls hg
   haveI:IsDevs V F wr:=by obtain ⟨g,e⟩:=hg;rw [e];infer_instance
   have v0:wr.cell? ⟨b,0,none⟩=some (.int .i64 grp):=by obtain ⟨g,e⟩:=hg;rw [e,cell_gr];exact v0
   have v1:wr.cell? ⟨b,1,none⟩=some (.int .i64 at_):=by obtain ⟨g,e⟩:=hg;rw [e,cell_gr];exact v1
   haveI:Old b wr:=by obtain ⟨g,e⟩:=hg;rw [e];infer_instance
   go_wp2_with fail
   (first | (with_reducible refine pl2 (.q [0,1,2,3,4,5,6,7,8,9,10,11] .d) ?_) | refine pl1 (.q [0,1,2,3,4,5,6,7,8,9,10,11] .d) ?_);simp only [Plan.run,pick,gZ,gS,gA,gN]
   (repeat (first | ((with_reducible apply wpQuiet_load);(·exact rfl);(·rintro _ ⟨gq,rfl⟩;exact ii);go_frame) | go_big_quiet_step (exact qZ)));refine nZ ?_
   rintro w2 hw2
   have hg2:∃ g,w2=gr V1 g:=by obtain ⟨g,rfl⟩:=hg;obtain ⟨g2,rfl⟩:=hw2;exact ⟨_,by rw [gr_alloc,gr_gr]⟩
   clear hw2
   go_wp2_with fail
   exact ⟨⟨rfl,.inr rfl,hg2⟩,by simp [intOf]⟩
  ·go_wp2_with fail
   go_ret
   exact Ret.mk rfl (below_of (Bt.gr_of (B1.cls hg)))
omit D in
theorem held_list {s:Slc} {F:Nat->Nat->ByteArray} {g a z:Nat} {t:ByteArray} (h:HeldAt s F g a z t):(colL s g a z).map (λ c=>F c.dev.toNat c.at_.toNat)=encL (colL s g a z) (sects t z):=by
 refine List.ext_getElem? λ k=>?_
 rcases Nat.lt_or_ge k (colL s g a z).length with hk | hk
 ·obtain ⟨c,hc⟩:∃ c,(colL s g a z)[k]?=some c:=⟨_,List.getElem?_eq_getElem hk⟩
  obtain ⟨e,he⟩:∃ e,(encL (colL s g a z) (sects t z))[k]?=some e:=⟨_,List.getElem?_eq_getElem (by rw [enc_len];exact hk)⟩
  rw [List.getElem?_map,hc,he,Option.map_some,h k c e hc he]
 ·rw [List.getElem?_eq_none (by simpa using hk),List.getElem?_eq_none (by rw [enc_len];exact hk)]
structure HeldN (V:VD) (F:Nat->Nat->ByteArray) (p:Pt) (t:ByteArray) (g a z:Nat):Prop where
 hn:p.isNone=false
 hg:p.ag=g
 ha:p.aa=a
 hz:p.size=z
 ok:PtOk V.s V.secs p
 ht:t.size=64*z
 m:mayB V.s V.secs g a z=true
 e:(colL V.s g a z).map (λ c=>F c.dev.toNat c.at_.toNat)=encL (colL V.s g a z) (sects t z)
 s:sum4 t=p.sum
omit D in
theorem Held.at_n {V:VD} {F:Nat->Nat->ByteArray} {p:Pt} {t:ByteArray} (ok:V.Ok) (h:Held V.s V.secs F p t):∃ g a z,HeldN V F p t g a z:=by
 obtain ⟨g,a,z,e1,e2,e3,h1,h2,h3⟩:=h.ok.in_ ok.g
 have ha:=h.at_
 have hs:=h.size
 rw [e1,e2,e3,Int.toNat_natCast,Int.toNat_natCast,Int.toNat_natCast] at ha
 rw [e3,Int.toNat_natCast] at hs
 refine ⟨g,a,z,?_,e1,e2,e3,h.ok,hs,h3,held_list ha,h.sum⟩
 cases hn:p.isNone
 ·rfl
 ·have:=(ptEq_iff p Pt.none).1 hn
  have h0:=h.ok.bt.1
  rw [this] at h0
  exact absurd h0 (by decide)
theorem look_fn (p:Pt) (t:ByteArray) (grp at_ z:Nat) (H:HeldN V F p t grp at_ z) :
  Fn 328 #[V.v,.agg p.cs] W (.tuple #[.agg #[.string t,.int .i64 0,.int .i64 (tryD V.s grp (colL V.s grp at_ z)),.int .i64 0],.int .i64 0]):=by
 refine ⟨?_⟩
 obtain ⟨hn,hg,ha,hz,hok,ht,hm,hE,hs⟩:=H
 have PA:=λ w=>places_at p hn w
 simp only [plC,hg,ha] at PA
 have HA:∀ w,[IsDevs V F w]->Fn 334 #[V.v,.agg p.cs,.agg #[.int .i64 grp,.int .i64 at_]] w (.tuple #[.agg #[.string t,.int .i64 0,.int .i64 (tryD V.s grp (colL V.s grp at_ z)),.int .i64 0],.bool true,.bool true]):=λ w _=>⟨hat_at V F w p grp at_ z hz t ht hm hE hs⟩
 have HV:∀ w,[IsDevs V F w]->Fn 69 #[V.v] w (.bool true):=λ w _=>vright_fn V F w
 have HP:∀ w,[IsDevs V F w]->Fn 184 #[.agg #[.slice V.s.ad V.s.len V.s.cap,.int .i64 V.secs],.agg p.cs] w (.bool true):=λ w _=>by
  haveI:=devs_geo V F w
  haveI:=devs_gm V F w
  exact pright_fn V.s V.secs w p hok
 generalize tryD V.s grp (colL V.s grp at_ z)=dv at HA ⊢
 have B:=Bt.zero W
 clear hE hg ha hm hs ht hok hz
 go_enter Tryz.func328,Tryz.ntmps328
 go_wp2_with (first | (with_reducible refine Fn.go λ g=>?_) | ((with_reducible apply wpList_load);(·exact rfl);(·exact ii)) | ((with_reducible apply wpList_loadg);(·exact rfl);(·exact rfl);(·exact ii)))
 refine (PA _).mono ?_
 rintro e V1 ⟨b,n,rfl,hnn,R1,hg⟩
 have B1:=btCls hg
 haveI:IsDevs V F V1:=by obtain ⟨g,e⟩:=hg;rw [e];infer_instance
 have h1n:1<=n:=by rw [hnn];split <;> omega
 obtain ⟨b',o',e',hb,hcl⟩:=R1.cells 0 _ rfl
 cases e'
 have v0:=hcl 0 _ rfl
 have v1:=hcl 1 _ rfl
 clear hnn R1 hcl PA hg B
 dsimp only
 go_wp2_with fail
 go_loopw [6,26] (λ m i wr=>m=.bool true/\i=.int .i64 0/\wr=V1)
  (λ _ _ _=>0)
 case atStart=>exact ⟨rfl,rfl,rfl⟩
 case round =>
  obtain ⟨rfl,rfl,rfl⟩:=hrel
  go_wp2_with (first | (with_reducible refine Fn.go λ g=>?_) | ((with_reducible apply wpList_load);(·exact rfl);(·exact ii)))
  (refine bodyPost_ret (results_ct (z:=4) rfl _ _ _ _ rfl inferInstance Tryz.underlying412 rfl (by kernel_rfl)) rfl ?_)
  exact Ret.mk rfl (below_of (Bt.gr_of ii))
end
theorem hread_fn {V:VD} {F:Nat->Nat->ByteArray} (ok:V.Ok) {p:Pt} {t:ByteArray} (H:Held V.s V.secs F p t):∃ dv:Int,∀ W,[IsDevs V F W] ->
  Fn 321 #[V.v,.agg p.cs] W (.tuple #[.agg #[.string t,.int .i64 0,.int .i64 dv,.int .i64 0],.int .i64 0]):=by
 obtain ⟨grp,at_,z,HN⟩:=H.at_n ok
 refine ⟨tryD V.s grp (colL V.s grp at_ z),λ W D=>⟨?_⟩⟩
 have HL:=λ w (_:IsDevs V F w)=>look_fn V F w p t grp at_ z HN
 have HM:∀ w,[IsDevs V F w]->Fn 329 #[V.v,.agg p.cs,.string t,.int .i64 1] w (.int .i64 0):=λ w _=>mended_fn V F w p HN.hn grp at_ z HN.hg HN.ha HN.hz t HN.ht HN.m HN.e
 generalize tryD V.s grp (colL V.s grp at_ z)=dv at HL ⊢
 have HL':∀ w,[IsDevs V F w]->Fn 328 #[V.v,.agg p.cs] w (.tuple #[.agg #[.string t,.int .i64 0,.int .i64 dv,.int .i64 0],.int .i64 0]):=HL
 have B:=Bt.zero W
 clear HL HN H
 go_enter Tryz.func321,Tryz.ntmps321
 go_wp2_with (first | (with_reducible refine Fn.go λ g=>?_) | ((with_reducible apply wpList_load);(·exact rfl);(·exact ii)))
 (refine bodyPost_ret (results_ct (z:=4) rfl _ _ _ _ rfl inferInstance Tryz.underlying412 rfl (by kernel_rfl)) rfl ?_)
 exact Ret.mk rfl (below_of (Bt.gr_of ii))
abbrev MD:=Nat × Nat × List Run
def usedM (ms:List MD) (g u:Nat):Prop:=∃ m,ms[g]?=some m/\inR m.2.2 u
def takeM (ms:List MD) (i at_ n:Nat):List MD:=match ms[i]? with
 | some m=>ms.set i (m.1,m.2.1,joinR (putR m.2.2 at_ n))
 | none=>ms
theorem takeM_len (ms:List MD) (i at_ n:Nat):(takeM ms i at_ n).length=ms.length:=by
 unfold takeM;split <;> simp
def findR (l:List Run) (z n from_:Nat):Option Nat:=match fitR n z l from_ with
 | some a=>some a
 | none=>fitR n z l 0
theorem findR_ok {n z:Nat} {l:List Run} {from_ a:Nat} (h:SortR z l) (e:findR l z n from_=some a):a+n<=z/\(∀ r∈l,r.1+r.2<=a\/a+n<=r.1):=by
 unfold findR at e
 split at e
 ·rename_i e2;cases e;exact (fitR_ok h e2).2
 ·exact (fitR_ok h e).2
theorem findR_free {n z:Nat} {l:List Run} {from_ a:Nat} (h:SortR z l) (e:findR l z n from_=some a) (u:Nat) (h1:a<=u) (h2:u < a+n):¬inR l u:=by
 rintro ⟨r,hr,h3,h4⟩
 rcases (findR_ok h e).2 r hr with h5 | h5 <;> omega
theorem used_take {ms:List MD} {i at_ n:Nat} {m:MD} (hm:ms[i]?=some m) (h:SortR m.2.1 m.2.2) (hn:0 < n) (hz:at_+n<=m.2.1) (hf:∀ r,m.2.2[firstR m.2.2 at_]?=some r->at_+n<=r.1) (g u:Nat) :
  usedM (takeM ms i at_ n) g u ↔ usedM ms g u\/(g=i/\at_<=u/\u < at_+n):=by
 obtain ⟨p1,p2,_⟩:=putR_ok h hn hz hf
 obtain ⟨q1,q2,_⟩:=joinR_ok p1
 have hi:i < ms.length:=(List.getElem?_eq_some_iff.1 hm).1
 unfold usedM takeM
 simp only [hm]
 by_cases e:g=i
 ·subst e
  rw [List.getElem?_set_self hi,hm]
  constructor
  ·rintro ⟨m',e,hu⟩
   cases e
   rcases (p2 u).1 ((q2 u).1 hu) with h1 | h1
   ·exact .inl ⟨m,rfl,h1⟩
   ·exact .inr ⟨rfl,h1⟩
  ·rintro (⟨m',e,hu⟩ | ⟨_,h1⟩)
   ·cases e
    exact ⟨_,rfl,(q2 u).2 ((p2 u).2 (.inl hu))⟩
   ·exact ⟨_,rfl,(q2 u).2 ((p2 u).2 (.inr h1))⟩
 ·rw [List.getElem?_set_ne (Ne.symm e)]
  constructor
  ·exact .inl
  ·rintro (h | ⟨h,_⟩)
   ·exact h
   ·exact absurd h e
def mapL (ms:List MD):List SP:=ms.map λ m=>MapP m.1 m.2.1 m.2.2
def ptrC (ms:List MD):List (List Value):=ms.map λ m=>[.pointer (some ⟨m.1,0,none⟩)]
def natC (l:List Nat):List (List Value):=l.map λ (n:Nat)=>[.int .i64 (n:Int)]
theorem natC_len (l:List Nat):(natC l).length=l.length:=by simp [natC]
theorem natC_z (l:List Nat):∀ x∈natC l,x.length=1:=by
 intro x hx;obtain ⟨_,_,rfl⟩:=List.mem_map.1 hx;rfl
theorem natC_one (l:List Nat):∀ x∈natC l,∀ v∈x,v.oneCell'=true:=by
 intro x hx v hv
 obtain ⟨r,_,rfl⟩:=List.mem_map.1 hx
 rw [List.mem_singleton.1 hv];rfl
theorem mapL_get {ms:List MD} {i:Nat} {m:MD} (h:ms[i]?=some m):(mapL ms)[i]?=some (MapP m.1 m.2.1 m.2.2):=by simp [mapL,h]
structure BkOk (s:Slc) (secs:Int) (ms:List MD) (es:List Nat):Prop where
 good:goodG s secs
 len:ms.length=s.len
 elen:es.length=s.len
 size:∀ (g:Nat) (m:MD),ms[g]?=some m->(m.2.1:Int)=secI s secs g
 ends:∀ (g e:Nat) (m:MD),es[g]?=some e->ms[g]?=some m->e<=m.2.1
def BookC (bb:Nat) (s:Slc) (secs:Int) (ms:List MD) (es:List Nat):SP:=λ h=>BkOk s secs ms es/\∃ mad mcap ead ecap,star [BlkP bb #[.slice s.ad s.len s.cap,.int .i64 secs,.slice mad ms.length mcap,.slice ead es.length ecap] 136,SlP 138 1 mad ms.length mcap (ptrC ms),SlP 3 1 ead es.length ecap (natC es),star (mapL ms)] h
class IsBook (bb:Nat) (s:outParam Slc) (secs:outParam Int) (ms:outParam (List MD)) (es:outParam (List Nat)) (w:World):Prop where
 i:In (BookC bb s secs ms es) w
instance isBookAlloc (bb:Nat) (s:Slc) (secs:Int) (ms:List MD) (es:List Nat) (W:World) (o:Obj) [k:IsBook bb s secs ms es W]:IsBook bb s secs ms es (W.alloc o):=by have:=k.i;exact ⟨ii⟩
instance isBookGr (bb:Nat) (s:Slc) (secs:Int) (ms:List MD) (es:List Nat) (W:World) (g:Gr) [k:IsBook bb s secs ms es W]:IsBook bb s secs ms es (gr W g):=by have:=k.i;exact ⟨ii⟩
def leftTo (ms:List MD) (k:Nat):Int:=((ms.take k).map λ m=>(m.2.1:Int) - sumN m.2.2 m.2.2.length).sum
theorem leftTo_succ {ms:List MD} {k:Nat} {m:MD} (h:ms[k]?=some m):leftTo ms (k+1)=leftTo ms k+((m.2.1:Int) - sumN m.2.2 m.2.2.length):=by
 unfold leftTo
 rw [List.take_add_one,h]
 simp
section
variable (bb:Nat) (s:Slc) (secs:Int) (ms:List MD) (es:List Nat) (W:World) [D:IsBook bb s secs ms es W]
theorem book_facts:BkOk s secs ms es/\Old bb W/\(∀ (i:Nat) (m:MD),ms[i]?=some m->IsMap m.1 m.2.1 m.2.2 W)/\∃ mad mcap ead ecap,W.cell? ⟨bb,0,none⟩=some (.slice s.ad s.len s.cap)/\W.cell? ⟨bb,1,none⟩=some (.int .i64 secs)/\W.cell? ⟨bb,2,none⟩=some (.slice mad ms.length mcap)/\W.cell? ⟨bb,3,none⟩=some (.slice ead es.length ecap)/\RdS 1 mad ms.length mcap (ptrC ms) W/\RdS 1 ead es.length ecap (natC es) W/\(ead=none->ecap=0):=by
 obtain ⟨h,⟨ok,mad,mcap,ead,ecap,st⟩,hw⟩:=D.i.ex
 obtain ⟨h1,p1,s1⟩:=st.get (i:=0) rfl
 obtain ⟨h2,p2,s2⟩:=st.get (i:=1) rfl
 obtain ⟨h3,p3,s3⟩:=st.get (i:=2) rfl
 obtain ⟨h4,p4,s4⟩:=st.get (i:=3) rfl
 haveI:=hw.sub s1
 haveI:=hw.sub s2
 haveI:=hw.sub s3
 haveI i4:=hw.sub s4
 refine ⟨ok,Has.old p1,λ i m hm=>?_,mad,mcap,ead,ecap,Has.cell p1,Has.cell p1,Has.cell p1,Has.cell p1,p2.rd W,p3.rd W,λ e=>?_⟩
 ·obtain ⟨h5,p5,s5⟩:=star.get p4 (mapL_get hm)
  exact ⟨⟨h5,p5,i4.sub s5⟩⟩
 ·rcases p3.2.2 with ⟨_,_,h⟩ | ⟨g,e2,_⟩
  ·exact h
  ·rw [e] at e2;cases e2
theorem leftTo_bd (ok:BkOk s secs ms es) (hm:∀ (i:Nat) (m:MD),ms[i]?=some m->IsMap m.1 m.2.1 m.2.2 W):∀ k,k<=ms.length->-(4294967296*(k:Int))<=leftTo ms k/\leftTo ms k<=65536*k
 | 0,_=>by simp [leftTo]
 | k+1,hk=>by
  obtain ⟨m,hmk⟩:∃ m,ms[k]?=some m:=⟨_,List.getElem?_eq_getElem (by omega)⟩
  have ih:=leftTo_bd ok hm k (by omega)
  haveI:=hm k m hmk
  obtain ⟨so,hz,_⟩:=map_facts m.1 m.2.1 m.2.2 W
  have h1:=sumN_le so m.2.2.length (Nat.le_refl _)
  have h2:=sortR_len (a:=0) so (by simp)
  have h3:m.2.2.length*m.2.1<=65536*65536:=Nat.mul_le_mul (by omega) (by omega)
  rw [leftTo_succ hmk]
  omega
include D
theorem bleft_fn:Fn 294 #[.pointer (some ⟨bb,0,none⟩)] W (.int .i64 (leftTo ms ms.length)):=by
 refine ⟨?_⟩
 obtain ⟨ok,ho,hm,mad,mcap,ead,ecap,c0,c1,c2,c3,R,_⟩:=book_facts bb s secs ms es W
 have hbd:=leftTo_bd s secs ms es W ok hm
 have hn:ms.length<=4:=by rw [ok.len];exact ok.good.2.1
 clear c0 c1 c3 ok
 go_enter Tryz.func294,Tryz.ntmps294
 go_wp2_with fail
 go_loopw [3,13] (λ m i wr=>∃ k:Nat,k<=ms.length/\i=.int .i64 k/\m=.int .i64 (leftTo ms k)/\∃ g,wr=gr W g)
  (λ _ i _=>ms.length - (intOf i).toNat)
 case atStart=>exact ⟨0,Nat.zero_le _,rfl,by simp [leftTo],ex_gr W⟩
 case round =>
  obtain ⟨k,hk,rfl,rfl,g,rfl⟩:=hrel
  by_cases hlt:k < ms.length
  ·obtain ⟨m,hmk⟩:∃ m,ms[k]?=some m:=⟨_,List.getElem?_eq_getElem hlt⟩
   haveI:=hm k m hmk
   have HL:=λ (w:World) (_:IsMap m.1 m.2.1 m.2.2 w)=>sleft_fn m.1 m.2.1 m.2.2 w
   have hsu:=leftTo_succ hmk
   have b1:=hbd k hk
   have b2:=hbd (k+1) hlt
   obtain ⟨b,off,rfl,hb,hcl⟩:=(ii:RdS 1 mad ms.length mcap (ptrC ms) (gr W g)).cells k [.pointer (some ⟨m.1,0,none⟩)] (by simp [ptrC,hmk])
   have v0:=hcl 0 _ rfl
   rw [Nat.add_zero,Nat.mul_one] at v0
   obtain ⟨x,hx⟩:∃ x,(m.2.1:Int) - sumN m.2.2 m.2.2.length=x:=⟨_,rfl⟩
   rw [hx] at hsu
   rw [hsu] at b2
   have HL':∀ w,[IsMap m.1 m.2.1 m.2.2 w]->Fn 300 #[.pointer (some ⟨m.1,0,none⟩)] w (.int .i64 x):=λ w i=>by rw [<-hx];exact HL w i
   have Hsu:=Lib.hid hsu
   clear hcl hsu hmk hm hbd HL hx
   go_wp2_with (with_reducible refine Fn.go λ g=>?_)
   exact ⟨⟨k+1,hlt,by go_num,congrArg (Value.int .i64) (by rw [Hsu.out]),by first | exact ⟨_,gr_gr ..⟩ | exact ⟨_,rfl⟩⟩,by simp [intOf];omega⟩
  ·obtain rfl:ms.length=k:=by omega
   go_wp2_with fail
   go_ret
   exact Ret.mk rfl grown
end
def orI (a b:Int):Int:=if a=0 then b else a
def flagI (b:Bool):Int:=if b then 1 else 0
def leftI (ms:List MD) (k:Nat):Int:=match ms[k]? with
 | some m=>(m.2.1:Int) - sumN m.2.2 m.2.2.length
 | none=>0
def cmpB (ms:List MD) (last:Int) (x y:Nat):Int :=
 if decide ((x:Int)=last)=decide ((y:Int)=last) then orI (Lib.compareInt (leftI ms y) (leftI ms x)) (Lib.compareInt x y) else Lib.compareInt (flagI (decide ((x:Int)=last))) (flagI (decide ((y:Int)=last)))
theorem ltOf_c (x y:Int):(Lib.compareInt x y < 0) ↔ x < y:=by unfold Lib.compareInt;split <;> (try split) <;> omega
theorem eq_c (x y:Int):(Lib.compareInt x y=0) ↔ x=y:=by unfold Lib.compareInt;split <;> (try split) <;> omega
instance cmpc_fn (x y:Int) (W:World):Fn 226 #[.int .i64 x,.int .i64 y] W (.int .i64 (Lib.compareInt x y)):=⟨(Tryz.cmp_Compare_int x y W).mono λ e w' ⟨h1,h2⟩=>by subst h1 h2;exact Ret.mk rfl (Below.refl _ _)⟩
theorem cmpor_fn (b:Nat) (x y:Int) (W:World) [k:CellsIn W b #[.int .i64 x,.int .i64 y]]:Fn 225 #[.slice (some ⟨b,0,none⟩) 2 2] W (.int .i64 (orI x y)):=by
 refine ⟨?_⟩
 generalize hr:orI x y=r
 have h1:=Lib.hid (show x=0->r=y from λ h=>by rw [<-hr,orI,if_pos h])
 have h2:=Lib.hid (show x≠0->r=x from λ h=>by rw [<-hr,orI,if_neg h])
 clear hr
 go_enter Tryz.func225,Tryz.ntmps225
 go_wp2_with fail
 go_loopw [8] (λ i wr=>(i=.int .i64 0\/(i=.int .i64 1/\x=0)\/(i=.int .i64 2/\x=0/\y=0))/\wr=W)
  (λ i _=>2 - (intOf i).toNat)
 case atStart=>exact ⟨.inl rfl,rfl⟩
 case round =>
  obtain ⟨rfl | ⟨rfl,hx⟩ | ⟨rfl,hx,hy⟩,rfl⟩:=hrel
  ·by_cases hx:x=0
   ·have e:(x != 0)=false:=by simp [hx]
    have Hx:=Lib.hid hx
    clear hx
    go_wp2_with fail
    exact ⟨⟨.inr (.inl ⟨rfl,Hx.out⟩),trivial⟩,by simp [intOf]⟩
   ·have e:(x != 0)=true:=by simp [hx]
    have e2:=h2.out hx
    subst e2
    clear hx h1 h2
    go_wp2_with fail
    go_ret
    exact Ret.mk rfl grown
  ·have e2:=h1.out hx
   subst e2
   have Hx:=Lib.hid hx
   clear hx h1 h2
   by_cases hy:r=0
   ·have e:(r != 0)=false:=by simp [hy]
    have Hy:=Lib.hid hy
    clear hy
    go_wp2_with fail
    exact ⟨⟨.inr (.inr ⟨rfl,Hx.out,Hy.out⟩),trivial⟩,by simp [intOf]⟩
   ·have e:(r != 0)=true:=by simp [hy]
    clear hy
    go_wp2_with fail
    go_ret
    exact Ret.mk rfl grown
  ·have e2:=h1.out hx
   subst e2
   clear h1 h2
   subst hx hy
   go_wp2_with fail
   go_ret
   exact Ret.mk rfl grown
set_option maxRecDepth 512 in
instance flag_fn (b:Bool) (W:World):Fn 301 #[.bool b] W (.int .i64 (flagI b)):=by
 refine ⟨?_⟩
 cases b
 ·go_enter Tryz.func301,Tryz.ntmps301
  go_wp2_with fail
  go_ret
  exact Ret.mk rfl grown
 ·go_enter Tryz.func301,Tryz.ntmps301
  go_wp2_with fail
  go_ret
  exact Ret.mk rfl grown
section
variable (bb:Nat) (s:Slc) (secs:Int) (ms:List MD) (es:List Nat) (W:World) [D:IsBook bb s secs ms es W]
include D
theorem order1_at (bc lc x y:Nat) (last:Int) (hx:x < ms.length) (hy:y < ms.length) [Old bc W] [Old lc W] (d0:W.cell? ⟨bc,0,none⟩=some (.pointer (some ⟨bb,0,none⟩))) (d1:W.cell? ⟨lc,0,none⟩=some (.int .i64 last)) :
  Calls Tryz.prog 299 #[.int .i64 x,.int .i64 y,.pointer (some ⟨bc,0,none⟩),.pointer (some ⟨lc,0,none⟩)] W (Ret (.int .i64 (cmpB ms last x y)) W):=by
 obtain ⟨ok,ho,hm,mad,mcap,ead,ecap,c0,c1,c2,c3,R,_⟩:=book_facts bb s secs ms es W
 obtain ⟨m,hmx⟩:∃ m,ms[x]?=some m:=⟨_,List.getElem?_eq_getElem hx⟩
 obtain ⟨m2,hmy⟩:∃ m,ms[y]?=some m:=⟨_,List.getElem?_eq_getElem hy⟩
 haveI:=hm x m hmx
 haveI:=hm y m2 hmy
 obtain ⟨a,ha⟩:∃ a,leftI ms x=a:=⟨_,rfl⟩
 obtain ⟨c,hc⟩:∃ c,leftI ms y=c:=⟨_,rfl⟩
 have HL1:∀ w,[IsMap m.1 m.2.1 m.2.2 w]->Fn 300 #[.pointer (some ⟨m.1,0,none⟩)] w (.int .i64 a):=λ w i=>by rw [<-ha,leftI,hmx];exact sleft_fn m.1 m.2.1 m.2.2 w
 have HL2:∀ w,[IsMap m2.1 m2.2.1 m2.2.2 w]->Fn 300 #[.pointer (some ⟨m2.1,0,none⟩)] w (.int .i64 c):=λ w i=>by rw [<-hc,leftI,hmy];exact sleft_fn m2.1 m2.2.1 m2.2.2 w
 obtain ⟨b,off,rfl,hb,hcl⟩:=R.cells x [.pointer (some ⟨m.1,0,none⟩)] (by simp [ptrC,hmx])
 obtain ⟨b2,off2,e2,hb2,hcl2⟩:=R.cells y [.pointer (some ⟨m2.1,0,none⟩)] (by simp [ptrC,hmy])
 cases e2
 have v0:=hcl 0 _ rfl
 have u0:=hcl2 0 _ rfl
 rw [Nat.add_zero,Nat.mul_one] at v0 u0
 have hz:cmpB ms last x y=if decide ((x:Int)=last)=decide ((y:Int)=last) then orI (Lib.compareInt c a) (Lib.compareInt x y) else Lib.compareInt (flagI (decide ((x:Int)=last))) (flagI (decide ((y:Int)=last))):=by unfold cmpB;rw [ha,hc]
 generalize cmpB ms last x y=r at hz ⊢
 have e1:((x:Int) == last)=decide ((x:Int)=last):=rfl
 have e2:((y:Int) == last)=decide ((y:Int)=last):=rfl
 generalize decide ((x:Int)=last)=px at hz e1
 generalize decide ((y:Int)=last)=py at hz e2
 clear ha hc hmx hmy hcl hcl2 hm R
 have HO:∀ w:World,Fn 225 #[.slice (some ⟨w.heap.size,0,none⟩) 2 2] (w.alloc (.cells #[.int .i64 (Lib.compareInt c a),.int .i64 (Lib.compareInt x y)] 3)) (.int .i64 (orI (Lib.compareInt c a) (Lib.compareInt x y))):=λ w=>by
  haveI:CellsIn (w.alloc (.cells #[.int .i64 (Lib.compareInt c a),.int .i64 (Lib.compareInt x y)] 3)) w.heap.size #[.int .i64 (Lib.compareInt c a),.int .i64 (Lib.compareInt x y)]:=⟨_,heap_alloc_new _ _⟩
  exact cmpor_fn _ _ _ _
 cases px <;> cases py <;> simp only [if_true,if_false,reduceCtorEq] at hz <;> subst hz
 all_goals
  go_enter Tryz.func299,Tryz.ntmps299
  go_wp2_with fail
  (first | (with_reducible refine pl2 (.q [0,1,2,3,4,5,6,7,8,9,10,11,12,13,14,15,16,17] .d) ?_) | refine pl1 (.q [0,1,2,3,4,5,6,7,8,9,10,11,12,13,14,15,16,17] .d) ?_);simp only [Plan.run,pick,gZ,gS,gA,gN]
  (repeat go_big_quiet_step (exact qZ));refine nZ ?_
  rintro w1 hw1
  haveI:Old bc w1:=by obtain ⟨g,e⟩:=hw1;rw [e];infer_instance
  haveI:Old lc w1:=by obtain ⟨g,e⟩:=hw1;rw [e];infer_instance
  replace d0:w1.cell? ⟨bc,0,none⟩=some (.pointer (some ⟨bb,0,none⟩)):=by obtain ⟨g,e⟩:=hw1;rw [e,cell_gr];exact d0
  replace d1:w1.cell? ⟨lc,0,none⟩=some (.int .i64 last):=by obtain ⟨g,e⟩:=hw1;rw [e,cell_gr];exact d1
  have hB:=below_of hw1
  clear hw1
  go_wp2_with (with_reducible refine Fn.go λ g=>?_)
 ·go_ret
  exact Ret.mk rfl (hB.trans ((grown:Below w1.heap.size w1 _).mono hB.size))
 ·(first | (with_reducible refine pl2 (.q [0,1,2,3,4,5,6,7,8,9] .d) ?_) | refine pl1 (.q [0,1,2,3,4,5,6,7,8,9] .d) ?_);simp only [Plan.run,pick,gZ,gS,gA,gN]
  (repeat go_big_quiet_step (exact qZ));refine nZ ?_
  rintro w2 hw2
  have hB2:=below_of hw2
  clear hw2
  go_wp2_with fail
  go_ret
  exact Ret.mk rfl (hB.trans (hB2.mono hB.size))
 ·(first | (with_reducible refine pl2 (.q [0,1,2,3,4,5,6,7,8,9] .d) ?_) | refine pl1 (.q [0,1,2,3,4,5,6,7,8,9] .d) ?_);simp only [Plan.run,pick,gZ,gS,gA,gN]
  (repeat go_big_quiet_step (exact qZ));refine nZ ?_
  rintro w2 hw2
  have hB2:=below_of hw2
  clear hw2
  go_wp2_with fail
  go_ret
  exact Ret.mk rfl (hB.trans (hB2.mono hB.size))
 ·go_ret
  exact Ret.mk rfl (hB.trans ((grown:Below w1.heap.size w1 _).mono hB.size))
end
theorem runC_take (l:List Run) (i:Nat):(runC l).take i=runC (l.take i):=by simp [runC,List.map_take]
theorem runC_drop (l:List Run) (i:Nat):(runC l).drop i=runC (l.drop i):=by simp [runC,List.map_drop]
theorem rds_block {b:Nat} {x y:Value} {c:Nat} (W:World) [k:CellsIn W b #[x,y]] (hc:c=1) {xs:List (List Value)} (hx:xs=[[x,y]]:=by rfl):RdS 2 (some ⟨b,0,none⟩) 1 c xs W:=by
 subst hx
 refine ⟨rfl,λ k x' hx=>?_⟩
 cases k with
 | zero =>
  obtain rfl:[x,y]=x':=by simpa using hx
  refine ⟨b,0,rfl,CellsIn.old (cs:=#[x,y]) ii,λ j v hj=>?_⟩
  rw [cell_in]
  simpa using hj
 | succ k=>simp at hx
theorem perm_front {α:Type _}:∀ {l:List α} {i:Nat} {p:α},l[i]?=some p->l.Perm (p::l.eraseIdx i)
 | [],_,_,e=>by simp at e
 | a::l,0,p,e=>by
  obtain rfl:a=p:=by simpa using e
  exact List.Perm.refl _
 | a::l,i+1,p,e=>(List.Perm.cons a (perm_front (l:=l) (by simpa using e))).trans (List.Perm.swap ..)
theorem Bt.front {W w:World} {h:Hl} {l:List SP} {i:Nat} {p:SP} (B:Bt W h l w) (e:l[i]?=some p):Bt W h (p::l.eraseIdx i) w:=B.perm (perm_front e)
def restA (ad:Option Addr) (i cap z:Nat):Option Addr:=if cap=i then ad else ad.map λ a=>a.add (i*z)
theorem RdS.rest {z:Nat} {ad:Option Addr} {n cap:Nat} {xs:List (List Value)} {W:World} (r:RdS z ad n cap xs W) (i c:Nat) (hc:n<=cap):RdS z (restA ad i cap z) (n - i) c (xs.drop i) W:=⟨by rw [List.length_drop,r.len],λ k x hx=>by
 rw [List.getElem?_drop] at hx
 obtain ⟨b,o,rfl,h1,h2⟩:=r.cells (i+k) x hx
 have hlt:=(List.getElem?_eq_some_iff.1 hx).1
 rw [r.len] at hlt
 refine ⟨b,o+i*z,by unfold restA;rw [if_neg (by omega)];simp [Addr.add],h1,λ j v hj=>?_⟩
 have:=h2 j v hj
 rw [show o+i*z+k*z+j=o+(i+k)*z+j by rw [Nat.add_mul];omega]
 exact this⟩
theorem stake_yes (mb z:Nat) (l:List Run) (at_ n:Nat) (h1:1<=n) (h2:at_+n<=z) (hf:∀ r,l[firstR l at_]?=some r->at_+n<=r.1):Tq 134 #[.pointer (some ⟨mb,0,none⟩),.int .i64 at_,.int .i64 n] (MapP mb z l) λ v q=>v=.int .i64 0/\q=MapP mb z (joinR (putR l at_ n)):=by
 refine Tq.of λ W h B0=>?_
 haveI:IsMap mb z l W:=⟨ii⟩
 obtain ⟨⟨ok,hz⟩,B1⟩:=B0.pure
 obtain ⟨ad,B1⟩:=B1.ex
 obtain ⟨k,B1⟩:=B1.ex
 obtain ⟨cap,B1⟩:=B1.ex
 have B:=B1.flat
 clear B1 B0
 simp only [List.append_nil] at B
 have HM:∀ w,[IsMap mb z l w]->Fn 187 #[.pointer (some ⟨mb,0,none⟩),.int .i64 at_,.int .i64 n] w (.bool true):=λ w _=>smay_fn mb z l w at_ n h1 h2
 have HF:∀ w,[IsMap mb z l w]->Fn 188 #[.pointer (some ⟨mb,0,none⟩),.int .i64 at_] w (.int .i64 (firstR l at_:Nat)):=λ w _=>first_fn mb z l w at_ (by omega)
 obtain ⟨hn,hcap,R⟩:k=l.length/\k<=cap/\RdS 2 ad k cap (runC l) W:=by
  obtain ⟨h0,p,hw⟩:=B.mem (i:=1) rfl
  exact ⟨by rw [<-p.1,runC_len],p.cap,p.rd W⟩
 subst hn
 have hlen:=sortR_len (a:=0) ok (by simp)
 obtain ⟨i,hi⟩:∃ i,i=firstR l at_:=⟨_,rfl⟩
 have hil:i<=l.length:=by rw [hi];exact firstR_le l at_
 rw [<-hi] at HF hf
 obtain ⟨hok,hin,hln⟩:=putR_ok ok (by omega) h2 (by rw [<-hi];exact hf)
 have hcat:runC (l.take i)++runC [(at_,n)]++runC (l.drop i)=runC (putR l at_ n):=by rw [hi];simp [runC,putR]
 obtain ⟨P,hP⟩:∃ P,P=putR l at_ n:=⟨_,rfl⟩
 rw [<-hP] at hok hin hln hcat ⊢
 have Hln:=Lib.hid hln
 have Hcat:=Lib.hid hcat
 clear hi hP hcat hln hin
 have had:(ad=none/\l.length=0/\cap=0)\/∃ g,ad=some ⟨g,0,none⟩:=by
  obtain ⟨h0,p,hw⟩:=B.mem (i:=1) rfl
  rcases p.2.2 with h | ⟨g,e,_⟩
  ·exact .inl h
  ·exact .inr ⟨g,e⟩
 have hgo:(∃ r g,l[i]?=some r/\at_+n<=r.1/\r.1+r.2<=z/\ad=some ⟨g,0,none⟩)\/(ad=none/\l=[]/\cap=0/\i=0)\/(∃ g,ad=some ⟨g,0,none⟩/\cap=l.length/\i=l.length)\/(∃ g,ad=some ⟨g,0,none⟩/\cap≠l.length/\i=l.length):=by
  rcases Nat.lt_or_ge i l.length with hlt | hge
  ·obtain ⟨r,hr⟩:∃ r,l[i]?=some r:=⟨_,List.getElem?_eq_getElem hlt⟩
   rcases had with ⟨_,h0,_⟩ | ⟨g,hg⟩
   ·omega
   ·exact .inl ⟨r,g,hr,hf r hr,(ok.pos r (List.mem_of_getElem? hr)).2,hg⟩
  ·rcases had with ⟨h1,h0,h2⟩ | ⟨g,hg⟩
   ·exact .inr (.inl ⟨h1,List.length_eq_zero_iff.1 h0,h2,by omega⟩)
   ·by_cases hc:cap=l.length
    ·exact .inr (.inr (.inl ⟨g,hg,hc,by omega⟩))
    ·exact .inr (.inr (.inr ⟨g,hg,hc,by omega⟩))
 clear hf had
 have K1:=Lib.hid (show i+1+(l.length - i)=P.length by have:=Hln.out;omega)
 go_enter Tryz.func134,Tryz.ntmps134
 rcases hgo with ⟨r,g0,hr,hfr,hp,rfl⟩ | ⟨rfl,rfl,rfl,rfl⟩ | ⟨g0,rfl,rfl,rfl⟩ | ⟨g0,rfl,hc,rfl⟩
 case' inl =>
  have hlt:=(List.getElem?_eq_some_iff.1 hr).1
  obtain ⟨b,off,e,hb,hcl⟩:=R.cells i _ (runC_get hr)
  cases e
  have v0:=hcl 0 _ rfl
  rw [Nat.add_zero,Nat.zero_add] at v0
  have hlt':¬ (r.1:Int) < (at_:Int)+n:=by omega
  have K0:∀ w,RdS 2 (some ⟨g0,0,none⟩) l.length cap (runC l) w->RdS 2 (some ⟨g0,0,none⟩) i i ((runC l).take i) w:=λ w r=>r.takeR i i hil
  have K2:∀ w,RdS 2 (some ⟨g0,0,none⟩) l.length cap (runC l) w->RdS 2 (some ⟨g0,i*2,none⟩) (l.length - i) (cap - i) ((runC l).drop i) w:=λ w r=>by have:=r.dropR i (cap - i) hil;rwa [Nat.zero_add] at this
  clear hcl hr
 case' inr.inl =>
  have K0:∀ w,RdS 2 none ([]:List Run).length 0 (runC []) w->RdS 2 none 0 0 ((runC []).take 0) w:=λ w r=>r.takeR 0 0 hil
  have K2:∀ w,RdS 2 none ([]:List Run).length 0 (runC []) w->RdS 2 none (([]:List Run).length - 0) 0 ((runC []).drop 0) w:=λ w r=>r.rest 0 0 (Nat.le_refl _)
 case' inr.inr.inl =>
  have K0:∀ w,RdS 2 (some ⟨g0,0,none⟩) l.length l.length (runC l) w->RdS 2 (some ⟨g0,0,none⟩) l.length l.length ((runC l).take l.length) w:=λ w r=>r.takeR _ _ hil
  have K2:∀ w,RdS 2 (some ⟨g0,0,none⟩) l.length l.length (runC l) w->RdS 2 (some ⟨g0,0,none⟩) (l.length - l.length) 0 ((runC l).drop l.length) w:=λ w r=>⟨by rw [List.length_drop,runC_len],λ k x hx=>by rw [List.drop_eq_nil_of_le (by rw [runC_len];omega)] at hx;simp at hx⟩
 case' inr.inr.inr =>
  have K0:∀ w,RdS 2 (some ⟨g0,0,none⟩) l.length cap (runC l) w->RdS 2 (some ⟨g0,0,none⟩) l.length l.length ((runC l).take l.length) w:=λ w r=>r.takeR _ _ hil
  have K2:∀ w,RdS 2 (some ⟨g0,0,none⟩) l.length cap (runC l) w->RdS 2 (some ⟨g0,l.length*2,none⟩) (l.length - l.length) (cap - l.length) ((runC l).drop l.length) w:=λ w r=>by have:=r.dropR l.length (cap - l.length) hil;rwa [Nat.zero_add] at this
 all_goals
  have HK0:=Lib.hid K0
  have HK2:=Lib.hid K2
  clear K0 K2
  go_wp2_with (with_reducible refine Fn.go λ g=>?_)
  (first | (with_reducible refine pl2 (.q [0,1,2,3,4,5,6,7,8,9,10,12,13,14,15,16,17] (.g 11 (.g 18 (.g 19 (.g 20 (.q [21,22] (.x [23] .d))))))) ?_) | refine pl1 (.q [0,1,2,3,4,5,6,7,8,9,10,12,13,14,15,16,17] (.g 11 (.g 18 (.g 19 (.g 20 (.q [21,22] (.x [23] .d))))))) ?_);simp only [Plan.run,pick,gZ,gS,gA,gN]
  (repeat go_big_quiet_step (exact qZ));refine nZ ?_
  rintro w1 hw1
  have B1:=btCls hw1
  go_wp2_with fail
  dsimp only [Nx]
  refine ⟨by obtain ⟨g,rfl⟩:=hw1;exact ⟨_,gr_alloc _ _ _⟩,?_⟩
  clear hw1
  rintro w2 hw2
  have B2:=btCls hw2
  go_wp2_with fail
  dsimp only [Nx]
  refine ⟨by obtain ⟨g,rfl⟩:=hw2;exact ⟨_,gr_alloc _ _ _⟩,?_⟩
  clear hw2
  rintro w3 hw3
  have B3:=btCls hw3
  go_wp2_with fail
  have r0:=HK0.out w3 (by obtain ⟨h0,p,hw⟩:=B3.mem (i:=3) rfl;exact p.rd w3)
  have r2:=HK2.out w3 (by obtain ⟨h0,p,hw⟩:=B3.mem (i:=3) rfl;exact p.rd w3)
  rw [runC_take] at r0
  rw [runC_drop] at r2
  have rB:RdS 2 (some ⟨w1.heap.size,0,none⟩) 1 1 (runC [(at_,n)]) w3:=rds_block _ rfl
  refine (concat3_at w2.heap.size _ _ _ _ _ _ _ _ _ _ _ _ w3 (r0:=r0) (r1:=rB) (r2:=r2) (by simp [go_sem]) (by simp [go_sem]) (by simp [go_sem]) (runC_z _) (runC_z _) (runC_z _) (runC_one _) (runC_one _) (runC_one _) (by omega) (by omega)).mono ?_
  rintro e w4 ⟨g,cap2,rfl,o⟩
  rw [Hcat.out,K1.out] at o
  rw [K1.out]
  have B4:=B3.cls o.grw
  haveI R4:=OwnS.rd o (runC_len _) (runC_z _)
  dsimp only
  go_wp2_with fail
  dsimp only [Nx]
  refine ⟨by obtain ⟨g1,rfl⟩:=hw3;obtain ⟨g2,e⟩:=o.grw;exact ⟨_,by rw [e,gr_gr]⟩,?_⟩
  clear hw3 o r0 r2 rB
  rintro w5 hw5
  have B5:=B4.cls hw5
  haveI R5:RdS 2 (some ⟨g,0,none⟩) P.length cap2 (runC P) w5:=by obtain ⟨gg,rfl⟩:=hw5;infer_instance
  go_wp2_with fail
  have hbd:∀ q∈P,0 < q.2/\q.1+q.2<=65536:=λ q hq=>by have:=hok.pos q hq;omega
  refine (joined_at (some ⟨g,0,none⟩) cap2 P w5 (by have:=Hln.out;omega) hbd).mono ?_
  rintro e w6 ⟨ad6,cap6,rfl,hg6,hx6⟩
  have B6:=B5.join hg6 hx6
  dsimp only
  go_wp2_with fail
  dsimp only [Nx]
  refine ⟨by obtain ⟨g1,rfl⟩:=hw5;obtain ⟨g2,e⟩:=hg6;exact ⟨_,by rw [e,gr_gr]⟩,?_⟩
  clear hw5 hg6 hx6 R4 R5
  (repeat go_big_quiet_step (exact qZ));refine nZ ?_
  rintro w7 hw7
  have B7:=B6.cls hw7
  clear hw7
  go_wp2_with fail
  dsimp only [Nx]
  rintro w8 hw8
  have B8:Bt W h _ w8:=btCls hw8
  clear hw8
  go_wp2_with fail
  go_ret
  (first | apply fin_a | apply fin_b)
  exact ⟨⟨rfl,rfl⟩,(((B8.front (i:=3) rfl).app [_,_]).head λ h s=>⟨⟨(joinR_ok hok).1,hz⟩,_,_,_,s⟩).fin_at 0 rfl⟩
theorem rdsCls {z:Nat} {ad:Option Addr} {n cap:Nat} {xs:List (List Value)} {W w:World} (r:RdS z ad n cap xs W) (c:Cls W w):RdS z ad n cap xs w:=by
 obtain ⟨g,rfl⟩:=c
 infer_instance
def optI:Option Nat->Int
 | some a=>a
 | none=>-1
section
variable (mb z:Nat) (l:List Run) (W:World) [D:IsMap mb z l W]
include D in
theorem map_ad:∃ ad n cap,W.cell? ⟨mb,1,none⟩=some (.slice ad n cap)/\n=l.length/\n<=cap/\RdS 2 ad n cap (runC l) W/\((ad=none/\n=0/\cap=0)\/∃ g,ad=some ⟨g,0,none⟩):=by
 obtain ⟨h,⟨⟨ok,hz⟩,ad,n,cap,s⟩,hw⟩:=D.i.ex
 obtain ⟨h1,p1,s1⟩:=s.get (i:=0) rfl
 obtain ⟨h2,p2,s2⟩:=s.get (i:=1) rfl
 haveI:=hw.sub s1
 haveI:=hw.sub s2
 refine ⟨ad,n,cap,Has.cell p1,by rw [<-p2.1,runC_len],p2.cap,p2.rd W,?_⟩
 rcases p2.2.2 with h | ⟨g,e,_⟩
 ·exact .inl h
 ·exact .inr ⟨g,e⟩
include D
theorem sfit_fn (n from_:Nat) (hn:1<=n/\n<=65536) (hf:from_<=z):Fn 302 #[.pointer (some ⟨mb,0,none⟩),.int .i64 n,.int .i64 from_] W (.int .i64 (optI (fitR n z l from_))):=by
 refine ⟨?_⟩
 obtain ⟨ok,hz,ho,_,_,_,c0,h9⟩:=map_facts mb z l W
 clear h9
 obtain ⟨ad,k,cap,c1,hk,hkc,R,had⟩:=map_ad mb z l W
 have HF:∀ w,[IsMap mb z l w]->Fn 188 #[.pointer (some ⟨mb,0,none⟩),.int .i64 from_] w (.int .i64 (firstR l from_:Nat)):=λ w _=>first_fn mb z l w from_ (by omega)
 have hfl:=firstR_le l from_
 obtain ⟨f,hfe⟩:∃ f,f=firstR l from_:=⟨_,rfl⟩
 rw [<-hfe] at HF hfl
 obtain ⟨L,hL⟩:∃ L,L=l.drop f:=⟨_,rfl⟩
 have hp:∀ r∈L,0 < r.2/\r.1+r.2<=z:=λ r hr=>ok.pos r (List.mem_of_mem_drop (hL ▸ hr))
 have hlen:L.length=l.length - f:=by rw [hL,List.length_drop]
 have HE:=Lib.hid (show fitR n z l from_=fitL n z L from_ by unfold fitR;rw [<-hfe,<- hL])
 rw [HE.out]
 subst hk
 have RL:=R.rest f (cap - f) hkc
 rw [runC_drop,<- hL] at RL
 unfold restA at RL
 clear hfe hL had
 have hl6:=sortR_len (a:=0) ok (by simp)
 rw [<-hlen] at RL
 go_enter Tryz.func302,Tryz.ntmps302
 go_wp2_with fail
 (first | (with_reducible refine pl2 (.q [0,1,2,3,4,5,6,7,8,9] .d) ?_) | refine pl1 (.q [0,1,2,3,4,5,6,7,8,9] .d) ?_);simp only [Plan.run,pick,gZ,gS,gA,gN]
 (repeat go_big_quiet_step (exact qZ));refine nZ ?_
 rintro V1 hV
 haveI:IsMap mb z l V1:=by obtain ⟨g,e⟩:=hV;rw [e];infer_instance
 replace RL:=rdsCls RL hV
 replace c0:V1.cell? ⟨mb,0,none⟩=some (.int .i64 z):=by obtain ⟨g,e⟩:=hV;rw [e,cell_gr];exact c0
 haveI:Old mb V1:=by obtain ⟨g,e⟩:=hV;rw [e];infer_instance
 have hB:=below_of hV
 clear hV R c1 ho
 rw [<-hlen]
 generalize (if cap=f then ad else ad.map λ x=>x.add (f*2))=a2 at RL ⊢
 go_wp2_with fail
 go_loopw [7,20] (λ av i wr=>∃ k a:Nat,k<=L.length/\i=.int .i64 k/\av=.int .i64 a/\a<=z/\fitL n z L from_=fitL n z (L.drop k) a/\∃ g,wr=gr V1 g)
  (λ _ i _=>L.length - (intOf i).toNat)
 case atStart=>exact ⟨0,from_,Nat.zero_le _,rfl,rfl,hf,rfl,ex_gr V1⟩
 case round =>
  obtain ⟨k,a,hk,rfl,rfl,ha,hfit,g,rfl⟩:=hrel
  by_cases hlt:k < L.length
  ·obtain ⟨r,hr⟩:∃ r,L[k]?=some r:=⟨_,List.getElem?_eq_getElem hlt⟩
   have hpr:=hp r (List.mem_of_getElem? hr)
   have hd:L.drop k=r::L.drop (k+1):=by
    obtain ⟨h1,h2⟩:=List.getElem?_eq_some_iff.1 hr
    rw [<-h2];exact List.drop_eq_getElem_cons h1
   obtain ⟨b,off,rfl,hb,hcl⟩:=(ii:RdS 2 a2 L.length (cap - f) (runC L) (gr V1 g)).cells k _ (runC_get hr)
   have v0:=hcl 0 _ rfl
   have v1:=hcl 1 _ rfl
   rw [Nat.add_zero] at v0
   rw [hd,fitL] at hfit
   have e5:(r.1:Int) - a < 4294967296/\-4294967296 < (r.1:Int) - a:=by omega
   by_cases hx:a+n<=r.1
   ·rw [if_pos hx] at hfit
    rw [hfit]
    have e6:(n:Int)<=(r.1:Int) - a:=by omega
    clear hcl hfit hd hr hx HE HF
    go_wp2_with fail
    go_ret
    exact Ret.mk rfl (hB.trans ((grown:Below V1.heap.size V1 _).mono hB.size))
   ·rw [if_neg hx] at hfit
    have e6:¬ (n:Int)<=(r.1:Int) - a:=by omega
    have Hf:=Lib.hid hfit
    clear hcl hfit hd hr hx HE HF
    go_wp2_with fail
    refine ⟨⟨k+1,max a (r.1+r.2),hlt,by go_num,congrArg (Value.int .i64) (by unfold imax;split <;> omega),by omega,Hf.out,_,gr_alloc _ _ _⟩,by simp [intOf];omega⟩
  ·obtain rfl:L.length=k:=by omega
   rw [List.drop_eq_nil_of_le (Nat.le_refl _),fitL] at hfit
   by_cases hx:a+n<=z
   ·rw [if_pos hx] at hfit
    have e6:(n:Int)<=(z:Int) - a:=by omega
    have Hf:=Lib.hid hfit
    clear hfit hx HE HF
    go_wp2_with fail
    go_ret
    exact Ret.mk (by rw [Hf.out];rfl) (hB.trans ((grown:Below V1.heap.size V1 _).mono hB.size))
   ·rw [if_neg hx] at hfit
    have e6:¬ (n:Int)<=(z:Int) - a:=by omega
    have Hf:=Lib.hid hfit
    clear hfit hx HE HF
    go_wp2_with fail
    go_ret
    exact Ret.mk (by rw [Hf.out];rfl) (hB.trans ((grown:Below V1.heap.size V1 _).mono hB.size))
theorem sfind_fn (n from_:Nat) (hn:1<=n/\n<=65536) (hf:from_<=z):Fn 297 #[.pointer (some ⟨mb,0,none⟩),.int .i64 n,.int .i64 from_] W (match findR l z n from_ with
  | some a=>.tuple #[.int .i64 a,.bool true]
  | none=>.tuple #[.int .i64 0,.bool false]):=by
 refine ⟨?_⟩
 obtain ⟨ok,hz,ho,_,_,_,c0,h9⟩:=map_facts mb z l W
 clear h9
 have HF1:∀ w,[IsMap mb z l w]->Fn 302 #[.pointer (some ⟨mb,0,none⟩),.int .i64 n,.int .i64 from_] w (.int .i64 (optI (fitR n z l from_))):=λ w _=>sfit_fn mb z l w n from_ hn hf
 have HF2:∀ w,[IsMap mb z l w]->Fn 302 #[.pointer (some ⟨mb,0,none⟩),.int .i64 n,.int .i64 0] w (.int .i64 (optI (fitR n z l 0))):=λ w _=>sfit_fn mb z l w n 0 hn (Nat.zero_le _)
 unfold findR
 have hn0:¬ (n:Int) < 1:=by omega
 have hf2:¬ (z:Int) < from_:=by omega
 cases h1:fitR n z l from_ <;> cases h2:fitR n z l 0 <;> rw [h1] at HF1 <;> rw [h2] at HF2 <;> simp only [optI] at HF1 HF2 ⊢ <;> clear h1 h2
 all_goals
  go_enter Tryz.func297,Tryz.ntmps297
  go_wp2_with fail
  refine wp_loop_rounds 3 ?_
  repeat (rw [rounds_succ];go_wp2_with (with_reducible refine Fn.go λ g=>?_))
  go_ret2
  exact Ret.mk rfl grown
end
end Go.Proofs.YtlfjdjndhcmliaaGreatDoor
