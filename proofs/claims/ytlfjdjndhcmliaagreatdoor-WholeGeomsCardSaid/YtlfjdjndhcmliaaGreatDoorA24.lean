/- WholeGeoms, part 24. -/
import Derived.Test.YtlfjdjndhcmliaaGreatDoorA23
set_option maxRecDepth 100000
set_option maxHeartbeats 4000000
set_option linter.all false
namespace Go.Proofs.YtlfjdjndhcmliaaGreatDoor
open Go.RowKit Go.Sort
theorem sto_st {V:VD} {st bb:Nat} {sb:Slc} {txg keep:Nat} {meta_:Bool} (hk:keep<=1000) (hx:1<=txg/\txg<=4294967295):Sto st (StP V st bb sb txg keep meta_) where
 get K c p t h:=stget_tq K c p t h
 put K c t lv hc hl h0 h1 h2:=stput_tq K c t lv hc hl h0 h1 h2 hk hx
 less K c c' hc h s:=by
  obtain ⟨dn,N,F,ms,es,ok,s⟩:=s
  exact ⟨dn,N,F,ms,es,ok.less hc rfl,star.map (i:=1) s rfl λ h p=>DnP.less hc p⟩
 sub K K' c hl h s:=by
  obtain ⟨dn,N,F,ms,es,ok,s⟩:=s
  exact ⟨dn,N,F,ms,es,⟨ok.same,⟨λ p t hp=>ok.kept.held p t (hl p t hp),λ p t hp=>ok.kept.used p t (hl p t hp),λ p q t t' hp hq=>ok.kept.uni p q t t' (hl p t hp) (hl q t' hq)⟩,ok.bd⟩,s⟩
 fit K c h p t s hp:=by
  obtain ⟨dn,N,F,ms,es,ok,s⟩:=s
  exact ⟨(ok.kept.held p t hp).fit⟩
instance aggGm:AggTy 24 2:=⟨λ W b o cs _=>run_loadSub W b o 2 cs _ _ Tryz.underlying24 rfl (by kernel_rfl)⟩
instance aggDv:AggTy 31 4:=⟨λ W b o cs _=>run_loadSub W b o 4 cs _ _ Tryz.underlying31 rfl (by kernel_rfl)⟩
instance aggUb:AggTy 54 14:=⟨λ W b o cs _=>run_loadSub W b o 14 cs _ _ Tryz.underlying54 rfl (by kernel_rfl)⟩
instance aggSc:AggTy 75 9:=⟨λ W b o cs _=>run_loadSub W b o 9 cs _ _ Tryz.underlying75 rfl (by kernel_rfl)⟩
instance aggSt:AggTy 78 24:=⟨λ W b o cs _=>run_loadSub W b o 24 cs _ _ Tryz.underlying78 rfl (by kernel_rfl)⟩
theorem clsAl {w w':World} (h:Cls w w') (o:Obj):∃ g,w'.alloc o=gr w g:=by obtain ⟨g,rfl⟩:=h;exact ⟨_,gr_alloc ..⟩
theorem clsGr {w w':World} (h:Cls w w') (g:Gr):∃ g',gr w' g=gr w g':=by obtain ⟨g,rfl⟩:=h;exact ⟨_,gr_gr ..⟩
theorem clsTr {w w' w2:World} (h:Cls w w') (h2:∃ g,w2=gr w' g):∃ g',w2=gr w g':=by obtain ⟨g,rfl⟩:=h;obtain ⟨g,rfl⟩:=h2;exact ⟨_,gr_gr ..⟩
instance elZI:ElZ 36 3 (.int .i64 0):=elZ_of Tryz.underlying36 (b:=8) (by kernel_rfl) (by omega) rfl
theorem secI_rng {s:Slc} {secs:Int} (h:goodG s secs) {g:Nat} (hg:g < s.len):1<=secI s secs g/\secI s secs g<=65536:=by
 obtain ⟨w1,w2,w3⟩:=wide_of h hg
 have h3:=h.2.2.1
 have h4:=h.2.2.2.1
 unfold secI
 rw [if_pos ⟨by omega,by omega⟩]
 unfold secsOf
 rw [show ((g:Int)).toNat=g by omega]
 split
 ·constructor
  ·have:=Int.mul_le_mul (show (1:Int)<=secs - 16 by omega) (show (1:Int)<=s.y g by omega) (by omega) (by omega);omega
  ·have:=Int.mul_le_mul (show secs - 16<=(4096:Int) by omega) (show s.y g<=(8:Int) by omega) (by omega) (by omega);omega
 ·omega
theorem natC_rep (n:Nat):(natC (List.replicate n 0)).flatten=List.replicate n (.int .i64 0):=by
 induction n with
 | zero=>rfl
 | succ n ih=>simp only [List.replicate_succ,natC,List.map_cons,List.flatten_cons] at ih ⊢;rw [ih];rfl
def newL (s:Slc) (secs:Int) (bs:List Nat):List MD:=bs.zipIdx.map λ p=>(p.1,(secI s secs p.2).toNat,[])
theorem newL_len (s:Slc) (secs:Int) (bs:List Nat):(newL s secs bs).length=bs.length:=by simp [newL]
theorem newL_snoc (s:Slc) (secs:Int) (bs:List Nat) (b:Nat):newL s secs (bs++[b])=newL s secs bs++[(b,(secI s secs bs.length).toNat,[])]:=by simp [newL,List.zipIdx_append]
theorem newL_get {s:Slc} {secs:Int} {bs:List Nat} {g:Nat} {m:MD} (h:(newL s secs bs)[g]?=some m):m.2=((secI s secs g).toNat,[]):=by
 simp only [newL,List.getElem?_map,List.getElem?_zipIdx,Option.map_map] at h
 cases e:bs[g]? with
 | none=>rw [e] at h;cases h
 | some b=>rw [e] at h;simp at h;rw [<-h]
theorem bkok_new {s:Slc} {secs:Int} (h:goodG s secs) {bs:List Nat} (hl:bs.length=s.len):BkOk s secs (newL s secs bs) (List.replicate s.len 0) :=
 ⟨h,(newL_len ..).trans hl,List.length_replicate ..,λ g m hg=>by
  have h1:=newL_get hg
  have h2:g < s.len:=by have:=(List.getElem?_eq_some_iff.1 hg).1;rw [newL_len,hl] at this;exact this
  have:=secI_rng h h2
  rw [h1];show ((secI s secs g).toNat:Int)=_;omega,λ g e m he _=>by rw [(List.mem_replicate.1 (List.mem_of_getElem? he)).2];exact Nat.zero_le _⟩
theorem sameS_at (s:Slc) (g cap:Nat):SameS (s.at_ g cap) s:=⟨rfl,rfl,rfl⟩
theorem anew_at (s:Slc) (secs:Nat) [gk:Geo s secs] (W:World) [gm:GM s W] (hb:s.blk < W.heap.size) :
  Calls Tryz.prog 73 #[.agg #[.slice s.ad s.len s.cap,.int .i64 secs]] W λ e w' =>
   ∃ bb g cap bs,e=.returned (.tuple #[.pointer (some ⟨bb,0,none⟩),.int .i64 0])/\New1 (star [GMP (s.at_ g cap),BookC bb (s.at_ g cap) secs (newL s secs bs) (List.replicate s.len 0)]) W w':=by
 have hgood:=gk.h
 have hn4:s.len<=4:=hgood.2.1
 have CL:∀ W',GM s W'->_:=λ W' m=>by
  haveI:=GM.rd m
  exact clnG s.ad s.len s.cap (grpL s) W' (by have:=hgood.2.1;omega) (by simp [grpL]) (by simp [grpL,Value.oneCell']) (λ e=>by rw [m.addr 0 (by have:=hgood.1;omega)] at e;cases e)
 have J1:∀ {l:List SP} {w1 w2:World} {g2 cap':Nat},GM s w1->Bt W (λ _=>none) l w1->OwnS 67 2 (some ⟨g2,0,none⟩) s.len cap' (grpL s).flatten w2 w1->Bt W (λ _=>none) (GMP (s.at_ g2 cap')::l) w2/\GM s w2:=λ {l w1 w2 g2 cap'} m b o=>⟨b.join o.grw (by
  obtain ⟨hp,a,r,q⟩:=own_heap o (by simp [grpL]) (by simp [grpL])
  exact ⟨hp,gmp_of r,a,q⟩),by obtain ⟨g,rfl⟩:=o.grw;infer_instance⟩
 have J2:∀ {l:List SP} {w1 w2:World} {ad:Option Addr} {n cap':Nat},Bt W (λ _=>none) l w1->OwnS 3 1 ad n cap' (List.replicate n (.int .i64 0)) w2 w1->True/\Bt W (λ _=>none) (SlP 3 1 ad n cap' (natC (List.replicate n 0))::l) w2:=λ {l w1 w2 ad n cap'} b o=>⟨trivial,b.join o.grw (by
  rw [<-natC_rep] at o
  obtain ⟨hp,a,r,q⟩:=o.slP (by rw [natC_len,List.length_replicate]) (natC_z _)
  exact ⟨hp,r,a,q⟩)⟩
 haveI:=Bt.zero W
 go_enter Tryz.func73,Tryz.ntmps73
 go_wp2_with (first | (with_reducible refine Fn.go λ g=>?_) | ((with_reducible apply wpList_load);(·exact rfl);(·exact ii)))
 go_wp2_with fail
 (first | (with_reducible refine pl2 (.q [0,1,3,4,6,7,8] (.z 2 9 (.q [5] (.g 9 (.q [10] (.g 11 (.q [12] .d))))) (.g 2 (.q [5,10] (.g 11 (.q [12] .d)))))) ?_) | refine pl1 (.q [0,1,3,4,6,7,8] (.z 2 9 (.q [5] (.g 9 (.q [10] (.g 11 (.q [12] .d))))) (.g 2 (.q [5,10] (.g 11 (.q [12] .d)))))) ?_);simp only [Plan.run,pick,gZ,gS,gA,gN]
 (repeat go_big_quiet_step (exact qZ));refine nZ ?_
 refine ⟨?_,?_⟩
 ·rintro w1 hw1
  have B1:Bt W _ _ w1:=btCls hw1
  haveI gm1:GM s w1:=by obtain ⟨g,rfl⟩:=hw1;infer_instance
  go_wp2_with fail
  refine (CL _ ii).mono ?_
  rintro e w2 ⟨ad',cap',rfl,o,hne⟩
  obtain ⟨g2,rfl⟩:=o.some_ (.inr hgood.1)
  obtain ⟨B2,gm2⟩:=J1 gm1 B1 o
  dsimp only
  go_wp2_with fail
  dsimp only [Nx]
  refine ⟨clsTr hw1 o.grw,?_⟩
  clear o hne hw1
  (repeat go_big_quiet_step (exact qZ));refine nZ ?_
  rintro w3 hw3
  have B3:=B2.cls hw3
  go_wp2_with ((with_reducible apply wpList_make1);(·exact rfl);(·exact rfl);(·omega);intro gM hMk)
  obtain ⟨_,B4⟩:=J2 B3 hMk
  dsimp only [Nx]
  refine ⟨clsGr hw3 _,?_⟩
  clear hw3
  go_frame
  (repeat go_big_quiet_step (exact qZ));refine nZ ?_
  rintro w5 hw5
  have B5:=B4.cls hw5
  clear B4 B3 B2 B1
  go_wp2_with fail
  dsimp only [Nx]
  refine ⟨clsAl hw5 _,?_⟩
  (repeat go_big_quiet_step (exact qZ));refine nZ ?_
  rintro w7 hw7
  have B6:Bt W _ _ w7:=btCls hw7
  clear hw5
  have B7:Bt W (λ _=>none) [BlkP w5.heap.size _ _,BlkP W.heap.size _ _,GMP _,SlP _ _ _ _ _ _] w7:=(B6.perm ((List.Perm.cons _ (List.perm_append_comm (l₁:=[_,_]) (l₂:=[_]))).trans (.cons _ (.cons _ (.swap ..)))))
  generalize w5.heap.size=bb at B7 ⊢
  clear hw7 B6 B5
  have B8:=(B7.more (SlP.nil 138 1 _)).more (p:=star (mapL [])) trivial
  simp only [List.cons_append,List.nil_append] at B8
  clear B7
  go_wp2_with fail
  go_loopw [26] (λ i wr=>∃ (k:Nat) (bs:List Nat) (ad2:Option Addr) (cap2:Nat),k<=s.len/\i=.int .i64 k/\bs.length=k/\Bt W (λ _=>none) [BlkP bb #[.slice (some ⟨g2,0,none⟩) s.len cap',.int .i64 secs,.slice ad2 k cap2,.slice (some ⟨w3.heap.size,0,none⟩) s.len s.len] 136,BlkP W.heap.size #[.slice s.ad s.len s.cap,.int .i64 secs] 24,GMP (s.at_ g2 cap'),SlP 3 1 (some ⟨w3.heap.size,0,none⟩) s.len s.len (natC (List.replicate s.len 0)),SlP 138 1 ad2 k cap2 (ptrC (newL s secs bs)),star (mapL (newL s secs bs))] wr)
   (λ i _=>s.len - (intOf i).toNat)
  case atStart=>exact ⟨0,[],none,0,Nat.zero_le _,rfl,rfl,B8⟩
  case round =>
   clear B8
   obtain ⟨k,bs,ad2,cap2,hk,rfl,hbs,B⟩:=hrel
   have hg:=B.gr_of
   haveI:GM s wr:=by obtain ⟨g,e⟩:=hg;rw [e];infer_instance
   by_cases hlt:k < s.len
   ·have hsz:=secI_rng hgood hlt
    obtain ⟨z,hz⟩:∃ z:Nat,secI s secs k=z:=Int.eq_ofNat_of_zero_le (by omega)
    have HS:∀ w,[GM s w]->Fn 132 #[.agg #[.slice s.ad s.len s.cap,.int .i64 secs],.int .i64 k] w (.int .i64 z):=λ w _=>by rw [<-hz];infer_instance
    have SN:=snew_at z (by omega) (by omega)
    have Hz:=Lib.hid hz
    have Hb:=Lib.hid hbs
    clear hz hsz hbs
    go_wp2_with (first | (with_reducible refine Fn.go λ g=>?_) | ((with_reducible apply wpList_load);(·exact rfl);(·exact ii)))
    refine (SN _).mono ?_
    rintro e w2 ⟨mb,rfl,hg2,hn2⟩
    have B2:=Bt.join (w:=gr wr ‹Gr›) ii hg2 hn2
    clear hg2 hn2 B
    dsimp only
    go_wp2_with (at_builtin;(with_reducible apply wpList_appT);(·exact rfl);(·exact rfl);(·exact ii);(·exact ii);(·exact ii);(·exact rfl);(·decide);(·omega);intro gA capA wA bA;(try dsimp only at bA))
    have B9:Bt W (λ _=>none) _ (wA.setCell ⟨bb,2,none⟩ (.slice (some ⟨gA,0,none⟩) (k+1) capA)):=ii
    generalize wA.setCell ⟨bb,2,none⟩ (.slice (some ⟨gA,0,none⟩) (k+1) capA)=wz at B9 ⊢
    have B10:Bt W (λ _=>none) (star (mapL (newL s secs bs))::_) wz:=B9.drop.front (i:=6) rfl
    have B11:Bt W (λ _=>none) (star (mapL (newL s secs bs)++[MapP mb z []])::[_,_,_,_,_]) wz:=⟨(B10.perm (List.Perm.swap ..)).t.mono λ _ s=>s.join⟩
    have e1:newL s secs (bs++[mb])=newL s secs bs++[(mb,z,[])]:=by rw [newL_snoc,Hb.out,Hz.out];rfl
    refine ⟨⟨k+1,bs++[mb],some ⟨gA,0,none⟩,capA,hlt,by go_num,by simp [Hb.out],?_⟩,by simp [intOf];omega⟩
    rw [e1,ptrC_snoc,mapL_snoc]
    exact B11.perm (List.perm_append_singleton _ _).symm
   ·obtain rfl:s.len=k:=by omega
    go_wp2_with fail
    go_ret2
    have e1:s.len=(newL s secs bs).length:=by rw [newL_len,hbs]
    have e2:(List.replicate s.len 0).length=s.len:=List.length_replicate ..
    refine ⟨bb,g2,cap',bs,rfl,?_⟩
    have B9:Bt W (λ _=>none) [_,_,_,_,_] wr:=(B.perm (List.Perm.swap ..)).drop
    have B10:Bt W (λ _=>none) [BlkP bb #[.slice (some ⟨g2,0,none⟩) s.len cap',.int .i64 secs,.slice ad2 (newL s secs bs).length cap2,.slice (some ⟨w3.heap.size,0,none⟩) (List.replicate s.len 0).length s.len] 136,SlP 138 1 ad2 (newL s secs bs).length cap2 (ptrC (newL s secs bs)),SlP 3 1 (some ⟨w3.heap.size,0,none⟩) (List.replicate s.len 0).length s.len (natC (List.replicate s.len 0)),star (mapL (newL s secs bs)),GMP (s.at_ g2 cap')] wr:=by
     rw [e2,<- e1]
     exact (((B9.front (i:=4) rfl).front (i:=3) rfl).front (i:=4) rfl).front (i:=3) rfl
    exact ((((B10.app [_,_,_,_]).head λ h sh=>⟨bkok_new (s:=s.at_ g2 cap') hgood hbs,_,_,_,_,sh⟩).perm (List.Perm.swap ..)).app [_,_]).new1
 ·rintro w1 hw1
  have B1:Bt W _ _ w1:=btCls hw1
  haveI gm1:GM s w1:=by obtain ⟨g,rfl⟩:=hw1;infer_instance
  go_wp2_with ((with_reducible apply wpList_make1);(·exact rfl);(·exact rfl);(·omega);intro gM hMk)
  obtain ⟨_,B2⟩:=J2 B1 hMk
  haveI gm2:GM s (gr w1 gM):=ii
  dsimp only [Nx]
  refine ⟨clsGr hw1 _,?_⟩
  clear hw1
  go_frame
  rintro w2 hw2
  have B3:Bt W _ _ w2:=B2.cls hw2
  haveI gm3:GM s w2:=by obtain ⟨g,rfl⟩:=hw2;infer_instance
  clear B2 B1
  go_wp2_with fail
  refine (CL _ ii).mono ?_
  rintro e w3 ⟨ad',cap',rfl,o,hne⟩
  obtain ⟨g2,rfl⟩:=o.some_ (.inr hgood.1)
  obtain ⟨B4,gm4⟩:=J1 gm3 B3 o
  dsimp only
  go_wp2_with fail
  dsimp only [Nx]
  refine ⟨clsTr hw2 o.grw,?_⟩
  clear o hne hw2
  (repeat go_big_quiet_step (exact qZ));refine nZ ?_
  rintro w5 hw5
  have B5:=B4.cls hw5
  clear B4 B3
  go_wp2_with fail
  dsimp only [Nx]
  refine ⟨clsAl hw5 _,?_⟩
  (repeat go_big_quiet_step (exact qZ));refine nZ ?_
  rintro w7 hw7
  have B6:Bt W _ _ w7:=btCls hw7
  clear hw5
  have B7:Bt W (λ _=>none) [BlkP w5.heap.size _ _,BlkP W.heap.size _ _,GMP _,SlP _ _ _ _ _ _] w7:=(B6.perm (List.Perm.cons _ (List.perm_append_comm (l₁:=[_,_]) (l₂:=[_]))))
  generalize w5.heap.size=bb at B7 ⊢
  clear hw7 B6 B5
  have B8:=(B7.more (SlP.nil 138 1 _)).more (p:=star (mapL [])) trivial
  simp only [List.cons_append,List.nil_append] at B8
  clear B7
  go_wp2_with fail
  go_loopw [26] (λ i wr=>∃ (k:Nat) (bs:List Nat) (ad2:Option Addr) (cap2:Nat),k<=s.len/\i=.int .i64 k/\bs.length=k/\Bt W (λ _=>none) [BlkP bb #[.slice (some ⟨g2,0,none⟩) s.len cap',.int .i64 secs,.slice ad2 k cap2,.slice (some ⟨w1.heap.size,0,none⟩) s.len s.len] 136,BlkP W.heap.size #[.slice s.ad s.len s.cap,.int .i64 secs] 24,GMP (s.at_ g2 cap'),SlP 3 1 (some ⟨w1.heap.size,0,none⟩) s.len s.len (natC (List.replicate s.len 0)),SlP 138 1 ad2 k cap2 (ptrC (newL s secs bs)),star (mapL (newL s secs bs))] wr)
   (λ i _=>s.len - (intOf i).toNat)
  case atStart=>exact ⟨0,[],none,0,Nat.zero_le _,rfl,rfl,B8⟩
  case round =>
   clear B8
   obtain ⟨k,bs,ad2,cap2,hk,rfl,hbs,B⟩:=hrel
   have hg:=B.gr_of
   haveI:GM s wr:=by obtain ⟨g,e⟩:=hg;rw [e];infer_instance
   by_cases hlt:k < s.len
   ·have hsz:=secI_rng hgood hlt
    obtain ⟨z,hz⟩:∃ z:Nat,secI s secs k=z:=Int.eq_ofNat_of_zero_le (by omega)
    have HS:∀ w,[GM s w]->Fn 132 #[.agg #[.slice s.ad s.len s.cap,.int .i64 secs],.int .i64 k] w (.int .i64 z):=λ w _=>by rw [<-hz];infer_instance
    have SN:=snew_at z (by omega) (by omega)
    have Hz:=Lib.hid hz
    have Hb:=Lib.hid hbs
    clear hz hsz hbs
    go_wp2_with (first | (with_reducible refine Fn.go λ g=>?_) | ((with_reducible apply wpList_load);(·exact rfl);(·exact ii)))
    refine (SN _).mono ?_
    rintro e w2 ⟨mb,rfl,hg2,hn2⟩
    have B2:=Bt.join (w:=gr wr ‹Gr›) ii hg2 hn2
    clear hg2 hn2 B
    dsimp only
    go_wp2_with (at_builtin;(with_reducible apply wpList_appT);(·exact rfl);(·exact rfl);(·exact ii);(·exact ii);(·exact ii);(·exact rfl);(·decide);(·omega);intro gA capA wA bA;(try dsimp only at bA))
    have B9:Bt W (λ _=>none) _ (wA.setCell ⟨bb,2,none⟩ (.slice (some ⟨gA,0,none⟩) (k+1) capA)):=ii
    generalize wA.setCell ⟨bb,2,none⟩ (.slice (some ⟨gA,0,none⟩) (k+1) capA)=wz at B9 ⊢
    have B10:Bt W (λ _=>none) (star (mapL (newL s secs bs))::_) wz:=B9.drop.front (i:=6) rfl
    have B11:Bt W (λ _=>none) (star (mapL (newL s secs bs)++[MapP mb z []])::[_,_,_,_,_]) wz:=⟨(B10.perm (List.Perm.swap ..)).t.mono λ _ s=>s.join⟩
    have e1:newL s secs (bs++[mb])=newL s secs bs++[(mb,z,[])]:=by rw [newL_snoc,Hb.out,Hz.out];rfl
    refine ⟨⟨k+1,bs++[mb],some ⟨gA,0,none⟩,capA,hlt,by go_num,by simp [Hb.out],?_⟩,by simp [intOf];omega⟩
    rw [e1,ptrC_snoc,mapL_snoc]
    exact B11.perm (List.perm_append_singleton _ _).symm
   ·obtain rfl:s.len=k:=by omega
    go_wp2_with fail
    go_ret2
    have e1:s.len=(newL s secs bs).length:=by rw [newL_len,hbs]
    have e2:(List.replicate s.len 0).length=s.len:=List.length_replicate ..
    refine ⟨bb,g2,cap',bs,rfl,?_⟩
    have B9:Bt W (λ _=>none) [_,_,_,_,_] wr:=(B.perm (List.Perm.swap ..)).drop
    have B10:Bt W (λ _=>none) [BlkP bb #[.slice (some ⟨g2,0,none⟩) s.len cap',.int .i64 secs,.slice ad2 (newL s secs bs).length cap2,.slice (some ⟨w1.heap.size,0,none⟩) (List.replicate s.len 0).length s.len] 136,SlP 138 1 ad2 (newL s secs bs).length cap2 (ptrC (newL s secs bs)),SlP 3 1 (some ⟨w1.heap.size,0,none⟩) (List.replicate s.len 0).length s.len (natC (List.replicate s.len 0)),star (mapL (newL s secs bs)),GMP (s.at_ g2 cap')] wr:=by
     rw [e2,<- e1]
     exact (((B9.front (i:=4) rfl).front (i:=3) rfl).front (i:=4) rfl).front (i:=3) rfl
    exact ((((B10.app [_,_,_,_]).head λ h sh=>⟨bkok_new (s:=s.at_ g2 cap') hgood hbs,_,_,_,_,sh⟩).perm (List.Perm.swap ..)).app [_,_]).new1
def plN (p:Pt):List (Nat × Nat):=if p.two then [(p.ag.toNat,p.aa.toNat),(p.bg.toNat,p.ba.toNat)] else [(p.ag.toNat,p.aa.toNat)]
def takeN (s:Slc) (z:Int) (l:List (Nat × Nat)) (g u:Nat):Prop:=∃ x∈l,g=x.1/\x.2<=u/\(u:Int) < x.2+takI s x.1 z
theorem PtOk.pl {s:Slc} {secs:Int} (h:goodG s secs) {p:Pt} (o:PtOk s secs p):∃ z:Nat,p.size=z/\(1<=z/\z<=4)/\plC p=((plN p).map λ x=>[.int .i64 (x.1:Nat),.int .i64 (x.2:Nat)])/\(∀ x∈plN p,x.1 < s.len/\(x.2:Int)+takI s x.1 z<=secI s secs x.1)/\p.isNone=false/\(plN p).length=if p.two then 2 else 1:=by
 haveI:Geo s secs:=⟨h⟩
 obtain ⟨g,a,z,e1,e2,e3,h1,h2,h3⟩:=o.in_ h
 have hn:p.isNone=false:=by
  cases e:p.isNone with
  | false=>rfl
  | true =>
   have:=(Pt.isNone_iff p).1 e
   rw [this] at e3
   have:(0:Int)=z:=e3
   omega
 have ha:=h3
 simp only [mayB,Bool.and_eq_true,decide_eq_true_eq] at ha
 refine ⟨z,e3,h2,?_,?_,hn,by unfold plN;split <;> rfl⟩
 ·unfold plC plN
  cases h2:p.two with
  | false=>simp [e1,e2]
  | true =>
   obtain ⟨⟨b0,b1⟩,_,c0,c1⟩:=may_in (o.b h2).1
   simp [e1,e2,Int.toNat_of_nonneg b0,Int.toNat_of_nonneg c0]
 ·intro x hx
  unfold plN at hx
  cases h2:p.two with
  | false =>
   simp [h2] at hx
   subst hx
   rw [e1,e2]
   simp only [Int.toNat_natCast]
   omega
  | true =>
   obtain ⟨⟨b0,b1⟩,_,c0,c1⟩:=may_in (o.b h2).1
   have hb:=(o.b h2).1
   rw [e3] at hb
   simp only [mayB,Bool.and_eq_true,decide_eq_true_eq] at hb
   simp [h2] at hx
   rcases hx with rfl | rfl
   ·rw [e1,e2]
    simp only [Int.toNat_natCast]
    omega
   ·simp only [Int.toNat_of_nonneg b0,Int.toNat_of_nonneg c0]
    omega
theorem BkOk.take {s:Slc} {secs:Int} {ms:List MD} {es:List Nat} (ok:BkOk s secs ms es) (i at_ n:Nat):BkOk s secs (takeM ms i at_ n) es:=by
 refine ⟨ok.good,by rw [takeM_len];exact ok.len,ok.elen,λ g m' hg=>?_,λ g e' m' he hg=>?_⟩ <;> unfold takeM at hg <;> split at hg
 ·rename_i m hm
  by_cases e:i=g
  ·subst e
   rw [List.getElem?_set_self (List.getElem?_eq_some_iff.1 hm).1] at hg
   cases hg
   exact ok.size i m hm
  ·rw [List.getElem?_set_ne e] at hg
   exact ok.size g m' hg
 ·exact ok.size g m' hg
 ·rename_i m hm
  by_cases e:i=g
  ·subst e
   rw [List.getElem?_set_self (List.getElem?_eq_some_iff.1 hm).1] at hg
   cases hg
   exact ok.ends i e' m he hm
  ·rw [List.getElem?_set_ne e] at hg
   exact ok.ends g e' m' he hg
 ·exact ok.ends g e' m' he hg
theorem ptrC_take (ms:List MD) (i at_ n:Nat):ptrC (takeM ms i at_ n)=ptrC ms:=by
 unfold takeM ptrC
 split
 ·rename_i m hm
  refine List.ext_getElem? λ j=>?_
  simp only [List.getElem?_map]
  by_cases hi:i=j
  ·subst hi
   rw [List.getElem?_set_self (List.getElem?_eq_some_iff.1 hm).1,hm];rfl
  ·rw [List.getElem?_set_ne hi]
 ·rfl
theorem Bt.row1 {W w:World} {h:Hl} {l:List SP} {bk n z:Nat} {cs:Array Value} {t:TypeId} {L:List (List Value)} (B:Bt W h (BlkP bk cs t::l) w) (h1:cs.toList=L.flatten) (h2:∀ x∈L,x.length=z) (h3:L.length=n):Bt W h (RwP t z bk n L::l) w :=
 B.head λ _ s=>RwP.of_blk s h1 h2 h3 (by rw [<-Array.length_toList,h1,flat_len h2,h3])
theorem places_new (p:Pt) (h:p.isNone=false) (W:World):Calls Tryz.prog 185 #[.agg p.cs] W λ e w'=>∃ b,e=.returned (.slice (some ⟨b,0,none⟩) (if p.two then 2 else 1) (if p.two then 2 else 1))/\New1 (RwP 45 2 b (if p.two then 2 else 1) (plC p)) W w':=by
 have HN:∀ w,Fn 169 #[.agg p.cs] w (.bool false):=λ w=>by have e:=none_fn p w;rw [h] at e;exact e
 haveI:=Bt.zero W
 cases h2:p.two
 ·go_enter Tryz.func185,Tryz.ntmps185
  go_wp2_with (first | (with_reducible refine Fn.go λ g=>?_) | ((with_reducible apply wpList_load);(·exact rfl);(·exact ii)))
  go_ret
  exact ⟨_,rfl,Bt.new1 (Bt.row1 ii (by simp [plC,h2]) (by simp [plC,h2]) (by simp [plC,h2]))⟩
 ·go_enter Tryz.func185,Tryz.ntmps185
  go_wp2_with (first | (with_reducible refine Fn.go λ g=>?_) | ((with_reducible apply wpList_load);(·exact rfl);(·exact ii)))
  go_ret
  exact ⟨_,rfl,Bt.new1 (Bt.row1 ii (by simp [plC,h2]) (by simp [plC,h2]) (by simp [plC,h2]))⟩
theorem set_self {α:Type _} {l:List α} {i:Nat} {a:α} (h:l[i]?=some a):l.set i a=l:=List.ext_getElem? λ j=>by
 by_cases e:i=j
 ·subst e;rw [List.getElem?_set_self (List.getElem?_eq_some_iff.1 h).1,h]
 ·rw [List.getElem?_set_ne e]
theorem takeN_succ {s:Slc} {z:Int} {pl:List (Nat × Nat)} {k:Nat} {x:Nat × Nat} (h:pl[k]?=some x) (g u:Nat):takeN s z (pl.take (k+1)) g u ↔ takeN s z (pl.take k) g u\/(g=x.1/\x.2<=u/\(u:Int) < x.2+takI s x.1 z):=by
 unfold takeN
 rw [List.take_add_one,h]
 simp only [Option.toList,List.mem_append,List.mem_singleton]
 constructor
 ·rintro ⟨y,hy | rfl,a⟩
  ·exact .inl ⟨y,hy,a⟩
  ·exact .inr a
 ·rintro (⟨y,hy,a⟩ | a)
  ·exact ⟨y,.inl hy,a⟩
  ·exact ⟨x,.inr rfl,a⟩
def MarkR (bb:Nat) (s:Slc) (secs:Int) (ms:List MD) (es:List Nat) (p:Pt) (v:Value) (q:SP):Prop :=
 (v=.int .i64 0/\∃ ms',(∀ g u,usedM ms' g u ↔ usedM ms g u\/takeN s p.size (plN p) g u)/\q=star [GMP s,BookC bb s secs ms' es]) \/
 (v=.int .i64 13/\∃ ms',Alike ms ms'/\q=star [GMP s,BookC bb s secs ms' es])
theorem each_tq (bb:Nat) (s:Slc) (secs:Int) (ms:List MD) (es:List Nat) (p:Pt) (po:PtOk s secs p) :
  Tq 133 #[.pointer (some ⟨bb,0,none⟩),.agg p.cs,.func (.func 134) #[] #[]] (star [GMP s,BookC bb s secs ms es]) (MarkR bb s secs ms es p):=by
 refine Tq.of λ W h B0=>?_
 have B1:=B0.flat
 simp only [List.append_nil] at B1
 haveI:IsBook bb s secs ms es W:=⟨ii⟩
 have CA:=λ (w:World) (_:IsBook bb s secs ms es w)=>bcopy_at bb s secs ms es w
 obtain ⟨ok,mad,mcap,ead,ecap,B⟩:=book_open (B1.perm (List.Perm.swap ..))
 clear B0 B1
 have hgood:=ok.good
 haveI:Geo s secs:=⟨hgood⟩
 obtain ⟨z,hz,hz4,hpl,hin,hnn,hpn⟩:=po.pl hgood
 have PA:=places_new p hnn
 rw [<-hpn,hpl] at PA
 obtain ⟨pl,hpl'⟩:∃ pl,plN p=pl:=⟨_,rfl⟩
 rw [hpl'] at PA hin hpn
 have hp2:pl.length<=2:=by rw [hpn];split <;> omega
 clear hpl hpn
 have HPL:=Lib.hid hpl'
 clear hpl'
 have HP:∀ w,[GM s w]->Fn 184 #[.agg #[.slice s.ad s.len s.cap,.int .i64 secs],.agg #[.int .i64 p.ag,.int .i64 p.aa,.int .i64 p.bg,.int .i64 p.ba,.bool p.two,.int .i64 p.size,.int .i64 p.level,.int .i64 p.birth,.int .u64 p.sum.a,.int .u64 p.sum.b,.int .u64 p.sum.c,.int .u64 p.sum.d]] w (.bool true):=λ w _=>pright_fn s secs w p po
 haveI:GM s W:=B.gm_in (k:=4) rfl
 have HZ:=Lib.hid hz
 clear hz
 go_enter Tryz.func133,Tryz.ntmps133
 go_wp2_with fail
 (first | (with_reducible refine pl2 (.q [0,1,2,3,4,5,6,7,8,9,10] .d) ?_) | refine pl1 (.q [0,1,2,3,4,5,6,7,8,9,10] .d) ?_);simp only [Plan.run,pick,gZ,gS,gA,gN]
 (repeat go_big_quiet_step (exact qZ));refine nZ ?_
 rintro w1 hw1
 have B1:Bt W h _ w1:=btCls hw1
 go_wp2_with fail
 haveI:IsBook bb s secs ms es w1:=by obtain ⟨g,rfl⟩:=hw1;infer_instance
 refine (CA _ ii).mono ?_
 rintro e w2 ⟨wb,wms,rfl,hal,hg,hn⟩
 have B2:=B1.join hg hn
 clear B B1 hg hn hw1 CA
 dsimp only
 go_wp2_with ((with_reducible apply wpList_load);(·exact rfl);(·exact ii))
 refine (PA _).mono ?_
 rintro e w3 ⟨pb,rfl,hg,hn⟩
 have B3:=Bt.join (w:=w2) ii hg hn
 dsimp only
 go_wp2_with fail
 clear B2 hg hn PA
 have HAL:=Lib.hid hal
 clear hal
 go_loopw [27] (λ i wr=>∃ (k:Nat) (msk:List MD),k<=pl.length/\i=.int .i64 k/\BkOk s secs msk es/\(∀ g u,usedM msk g u ↔ usedM ms g u\/takeN s z (pl.take k) g u)/\Bt W h [BookC bb s secs msk es,RwP 45 2 pb pl.length (pl.map λ x=>[.int .i64 (x.1:Nat),.int .i64 (x.2:Nat)]),BookC wb s secs wms es,BlkP W.heap.size p.cs 50,GMP s] wr) (λ i _=>pl.length - (intOf i).toNat)
 case atStart=>exact ⟨0,ms,Nat.zero_le _,rfl,ok,by simp [takeN],book_shut ok ((((B3.front (i:=6) rfl).front (i:=6) rfl).front (i:=6) rfl).front (i:=6) rfl)⟩
 case round =>
  clear B3
  obtain ⟨k,msk,hk,rfl,okk,hu,B⟩:=hrel
  by_cases hlt:k < pl.length
  ·obtain ⟨_,mad,mcap,ead,ecap,B1⟩:=book_open B
   clear B
   obtain ⟨x,hx⟩:∃ x,pl[k]?=some x:=⟨_,List.getElem?_eq_getElem hlt⟩
   obtain ⟨x1,x2⟩:=hin x (List.mem_of_getElem? hx)
   have hxl:x.1 < msk.length:=by rw [okk.len];exact x1
   obtain ⟨m,hm⟩:∃ m,msk[x.1]?=some m:=⟨_,List.getElem?_eq_getElem hxl⟩
   haveI:=B1.map_in (k:=3) rfl hm
   haveI:GM s wr:=B1.gm_in (k:=7) rfl
   obtain ⟨n,hn⟩:∃ n:Nat,takI s x.1 z=n:=Int.eq_ofNat_of_zero_le (by have:=takI_pos hgood x1 hz4;omega)
   have hn1:1<=n/\n<=65536:=by
    have h1:=takI_pos hgood x1 hz4
    have h2:=takI_bd s secs x.1 z
    omega
   have HT:∀ w,[GM s w]->Fn 186 #[.agg #[.slice s.ad s.len s.cap,.int .i64 secs],.int .i64 x.1,.int .i64 p.size] w (.int .i64 n):=λ w _=>by rw [<-hn,HZ.out];infer_instance
   have hmz:x.2+n<=m.2.1:=by have:=okk.size x.1 m hm;omega
   obtain ⟨h0,pr,hw⟩:=B1.mem (i:=4) rfl
   obtain ⟨ob,oo,e1,hob,hoc⟩:=(pr.rd (c:=pl.length) (n:=pl.length) (by simp) wr).cells k [.int .i64 (x.1:Nat),.int .i64 (x.2:Nat)] (by simp [hx])
   cases e1
   rw [Nat.zero_add] at hoc
   haveI:SubAt pb (k*2) #[.int .i64 (x.1:Nat),.int .i64 (x.2:Nat)] 2 wr:=⟨rfl,hob,λ j v e=>hoc j v e⟩
   obtain ⟨mb,mo,em,hmb,hmc⟩:=(B1.rd_in (k:=1) rfl).cells x.1 [.pointer (some ⟨m.1,0,none⟩)] (by simp [ptrC,hm])
   cases em
   have m0:=hmc 0 _ rfl
   rw [Nat.add_zero,Nat.mul_one] at m0
   have Hx:=Lib.hid hx
   have Hm:=Lib.hid hm
   have Hn:=Lib.hid hn
   clear hx hm hn hmc hoc
   go_wp2_with ((with_reducible apply wpList_load);(·exact rfl);(·exact ii))
   (first | (with_reducible refine pl2 (.q [0,1,2,3,4,5,6,7,8,9,10,11,12,13,14,15,16,17,18,19] (.x [20] (.q [21] .d))) ?_) | refine pl1 (.q [0,1,2,3,4,5,6,7,8,9,10,11,12,13,14,15,16,17,18,19] (.x [20] (.q [21] .d))) ?_);simp only [Plan.run,pick,gZ,gS,gA,gN]
   (repeat go_big_quiet_step (exact qZ));refine nZ ?_
   refine btI ?_
   intro w3 B3
   clear m0 hob hmb
   go_wp2_with fail
   have so:SortR m.2.1 m.2.2:=(map_facts m.1 m.2.1 m.2.2 wr).1
   by_cases hf:∀ r,m.2.2[firstR m.2.2 x.2]?=some r->x.2+n<=r.1
   ·refine (Bt.call ((stake_yes m.1 m.2.1 m.2.2 x.2 n hn1.1 hmz hf).at_ (mapL_get Hm.out))).mono ?_
    rintro e4 w4 ⟨v,q,rfl,⟨q0,⟨rfl,rfl⟩,rfl⟩,B4⟩
    have hset:(mapL msk).set x.1 (MapP m.1 m.2.1 (joinR (putR m.2.2 x.2 n)))=mapL (takeM msk x.1 x.2 n):=by
     unfold takeM
     rw [Hm.out]
     exact mapL_set msk x.1 (m.1,m.2.1,joinR (putR m.2.2 x.2 n))
    dsimp only at B4 ⊢
    rw [hset] at B4
    clear hset B1 B3
    go_wp2_with fail
    dsimp only [Nx]
    (repeat go_big_quiet_step (exact qZ));refine nZ ?_
    rintro w5 hw5
    have B5:Bt W h (_::_::_::_::_::_::_::_::_::[]) w5:=btCls hw5
    clear hw5 B4
    have B6:Bt W h _ w5:=B5.drop
    clear B5
    go_wp2_with fail
    refine ⟨⟨k+1,takeM msk x.1 x.2 n,hlt,by go_num,okk.take ..,λ g u=>?_,?_⟩,by simp [intOf];omega⟩
    ·rw [used_take Hm.out so hn1.1 hmz hf,hu,takeN_succ Hx.out]
     have:=Hn.out
     constructor
     ·rintro ((a | a) | ⟨a,b,c⟩)
      ·exact .inl a
      ·exact .inr (.inl a)
      ·exact .inr (.inr ⟨a,b,by omega⟩)
     ·rintro (a | a | ⟨a,b,c⟩)
      ·exact .inl (.inl a)
      ·exact .inl (.inr a)
      ·exact .inr ⟨a,b,by omega⟩
    ·have e1:msk.length=(takeM msk x.1 x.2 n).length:=(takeM_len ..).symm
     rw [e1,<- ptrC_take msk x.1 x.2 n] at B6
     exact book_shut (okk.take ..) B6
   ·obtain ⟨r,hr,hlt'⟩:∃ r,m.2.2[firstR m.2.2 x.2]?=some r/\r.1 < x.2+n:=by
     by_cases he:∃ r,m.2.2[firstR m.2.2 x.2]?=some r/\r.1 < x.2+n
     ·exact he
     ·exact absurd (λ r hr=>Nat.le_of_not_lt λ hc=>he ⟨r,hr,hc⟩) hf
    refine (Bt.call ((stake_no m.1 m.2.1 m.2.2 x.2 n hn1.1 hmz r hr hlt').at_ (mapL_get Hm.out))).mono ?_
    rintro e4 w4 ⟨v,q,rfl,⟨q0,⟨rfl,rfl⟩,rfl⟩,B4⟩
    have hset:(mapL msk).set x.1 (MapP m.1 m.2.1 m.2.2)=mapL msk:=set_self (mapL_get Hm.out)
    dsimp only at B4 ⊢
    clear B1 B3
    go_wp2_with fail
    dsimp only [Nx]
    (repeat go_big_quiet_step (exact qZ));refine nZ ?_
    rintro w5 hw5
    have B5:Bt W h (_::_::_::_::_::_::_::_::_::[]) w5:=btCls hw5
    clear hw5 B4
    have B6:Bt W h (_::_::_::_::_::_::_::_::[]) w5:=B5.drop
    have F2:Bt W h (_::_::_::_::_::_::_::_::[]) w5:=B6.front (i:=5) rfl
    obtain ⟨ok2,mad2,mcap2,ead2,ecap2,F3⟩:=book_open F2
    clear B5 B6 F2
    go_wp2_with fail
    go_ret
    (first | apply fin_a | apply fin_b)
    exact ⟨.inr ⟨rfl,wms,HAL.out,rfl⟩,Bt.book_end (i:=5) rfl ok2 ii⟩
  ·obtain rfl:pl.length=k:=by omega
   go_wp2_with fail
   go_ret
   (first | apply fin_a | apply fin_b)
   rw [List.take_length] at hu
   refine ⟨.inl ⟨rfl,msk,by rw [HZ.out,HPL.out];exact hu,rfl⟩,?_⟩
   have B1:Bt W h (_::_::_::_::_::[]) wr:=B.front (i:=4) rfl
   exact (B1.app [_,_]).fin_at 0 rfl
theorem mark_tq (bb:Nat) (s:Slc) (secs:Int) (ms:List MD) (es:List Nat) (p:Pt) (po:PtOk s secs p) :
  Tq 74 #[.pointer (some ⟨bb,0,none⟩),.agg p.cs] (star [GMP s,BookC bb s secs ms es]) (MarkR bb s secs ms es p):=by
 refine Tq.of λ W h B=>?_
 go_enter Tryz.func74,Tryz.ntmps74
 go_wp2_with ((with_reducible apply wpList_load);(·exact rfl);(·exact ii))
 refine (Bt.call (each_tq bb s secs ms es p po)).mono ?_
 rintro e w1 ⟨v,q,rfl,R,B1⟩
 dsimp only at B1 ⊢
 go_wp2_with fail
 go_ret
 (first | apply fin_a | apply fin_b)
 exact ⟨R,Bt.fin⟩
class ToL (cs:Array Value) (l:outParam (List Value)):Prop where
 e:cs=l.toArray
instance toL0 (l:List Value):ToL l.toArray l:=⟨rfl⟩
abbrev ptL (p:Pt):List Value:=[.int .i64 p.ag,.int .i64 p.aa,.int .i64 p.bg,.int .i64 p.ba,.bool p.two,.int .i64 p.size,.int .i64 p.level,.int .i64 p.birth,.int .u64 p.sum.a,.int .u64 p.sum.b,.int .u64 p.sum.c,.int .u64 p.sum.d]
abbrev ndL (n:Nd):List Value:=[.int .i64 n.size,.int .i64 n.root.ag,.int .i64 n.root.aa,.int .i64 n.root.bg,.int .i64 n.root.ba,.bool n.root.two,.int .i64 n.root.size,.int .i64 n.root.level,.int .i64 n.root.birth,.int .u64 n.root.sum.a,.int .u64 n.root.sum.b,.int .u64 n.root.sum.c,.int .u64 n.root.sum.d]
instance toLP (p:Pt):ToL p.cs (ptL p):=⟨rfl⟩
instance toLN (n:Nd):ToL n.cs (ndL n):=⟨rfl⟩
class LenL (l:List Value) (n:outParam Nat):Prop where
 e:l.length=n
instance lenL0:LenL [] 0:=⟨rfl⟩
instance lenL1 (a:Value) (l:List Value) (n:Nat) [k:LenL l n]:LenL (a::l) (n+1):=⟨by rw [List.length_cons,k.e]⟩
class SubL (l:List Value) (o z:Nat) (r:outParam (List Value)):Prop where
 e:(l.drop o).take z=r/\o+z<=l.length
instance subL0 (l:List Value):SubL l 0 0 []:=⟨rfl,by simp⟩
instance subL1 (a:Value) (l r:List Value) (z:Nat) [k:SubL l 0 z r]:SubL (a::l) 0 (z+1) (a::r):=⟨by have:=k.e.1;simpa using this,by have:=k.e.2;simp at this ⊢;omega⟩
instance subL2 (a:Value) (l r:List Value) (o z:Nat) [k:SubL l o z r]:SubL (a::l) (o+1) z r:=⟨by have:=k.e.1;simpa using this,by have:=k.e.2;simp;omega⟩
class SplL (l:List Value) (o:Nat) (c:List Value) (r:outParam (List Value)):Prop where
 e:l.take o++c++l.drop (o+c.length)=r/\o+c.length<=l.length
instance splL0 (l:List Value):SplL l 0 [] l:=⟨by simp,by simp⟩
instance splL1 (a b:Value) (l c r:List Value) [k:SplL l 0 c r]:SplL (a::l) 0 (b::c) (b::r):=⟨by have:=k.e.1;simp at this;simp [this],by have:=k.e.2;simp at this ⊢;omega⟩
instance splL2 (a:Value) (l c r:List Value) (o:Nat) [k:SplL l o c r]:SplL (a::l) (o+1) c (a::r):=⟨by have:=k.e.1;rw [<-this];simp [Nat.add_right_comm],by have:=k.e.2;simp;omega⟩
class StZ (t:TypeId) (z:outParam Nat):Prop where
 e:(Tryz.prog.info? t).map (·.size)=some z
instance (priority:=low) arrZL (l:List Value) (n:Nat) [k:LenL l n]:ArrZ l.toArray n:=⟨by simpa using k.e⟩
instance (priority:=low) subB (W:World) (b o z:Nat) (X:Array Value) (l r:List Value) [c:CellsIn W b X] [t:ToL X l] [s:SubL l o z r]:SubAt b o r.toArray z W:=by
 have e:=t.e
 subst e
 obtain ⟨e1,e2⟩:=s.e
 refine ⟨by rw [<-e1];simp;omega,CellsIn.old (cs:=l.toArray) c,λ j v h=>?_⟩
 rw [cell_in W b (o+j) l.toArray]
 rw [<-e1] at h
 simp only [List.getElem?_toArray] at h ⊢
 rw [List.getElem?_take] at h
 split at h
 ·simpa using h
 ·cases h
instance (priority:=low) stoB (t:TypeId) (W:World) (b o z:Nat) (X cs:Array Value) (l c r:List Value) [k:StZ t z] [d:CellsIn W b X] [tx:ToL X l] [tc:ToL cs c] [n:LenL c z] [o1:OneC c] [s:SplL l o c r]:StoTy t b o cs W (W.setRow b r.toArray):=by
 have e:=tx.e
 subst e
 have e:=tc.e
 subst e
 obtain ⟨tt,hb⟩:=d.get
 obtain ⟨e1,e2⟩:=s.e
 have hs:=run_storeCells_at Tryz.prog b o tt c 0 l.toArray W hb (by simpa using e2) o1.h
 refine stoTy_of k.e n.e (hs.trans ?_)
 rw [<-e1]
 rfl
instance:StZ 31 4:=⟨by kernel_rfl⟩
instance:StZ 54 14:=⟨by kernel_rfl⟩
instance:StZ 78 24:=⟨by kernel_rfl⟩
instance:StZ 125 15:=⟨by kernel_rfl⟩
instance:StZ 92 2:=⟨by kernel_rfl⟩
instance:StZ 52 13:=⟨by kernel_rfl⟩
instance:StZ 50 12:=⟨by kernel_rfl⟩
theorem loadVar_sub {ty:TypeId} {z:Nat} (w:World) (b:Nat) (cs:Array Value) (hs:SubAt b 0 cs z w) {d:TypeDesc} (hu:Tryz.prog.underlying ty=some d) (hd:isAg d=true) (hi:(Tryz.prog.info? ty).map (·.size)=some z):(loadVar ty ⟨b,0,none⟩).run Tryz.prog w=.ok (.agg cs) w:=by
 cases d <;> first | exact run_loadVarSub (P:=Tryz.prog) w b 0 z cs ty _ hu rfl hi | cases hd
theorem results_c {fn:Func} {p:Tmp} {ty:TypeId} {z:Nat} (h:fn.results=#[.cell p ty]) (tmps:Array Value) (w:World) (b:Nat) (cs:Array Value) (hp:tmps.getD p undef=.pointer (some ⟨b,0,none⟩)) (hs:SubAt b 0 cs z w) {d:TypeDesc}
  (hu:Tryz.prog.underlying ty=some d) (hd:isAg d=true) (hi:(Tryz.prog.info? ty).map (·.size)=some z):(results fn tmps).run Tryz.prog w=.ok (.agg cs) w:=by
 have hp':tmps[p]?.getD undef=.pointer (some ⟨b,0,none⟩):=by simpa using hp
 have hl:=loadVar_sub w b cs hs hu hd hi
 simp [results,h,hp',asAddr,hl,Sem.run_bind,Result.andThen]
structure Sn where
 id:Int
 txg:Int
 dir:Nd
def Sn.cs (x:Sn):List Value:=[.int .i64 x.id,.int .i64 x.txg,.int .i64 x.dir.size,.int .i64 x.dir.root.ag,.int .i64 x.dir.root.aa,.int .i64 x.dir.root.bg,.int .i64 x.dir.root.ba,.bool x.dir.root.two,.int .i64 x.dir.root.size,.int .i64 x.dir.root.level,.int .i64 x.dir.root.birth,.int .u64 x.dir.root.sum.a,.int .u64 x.dir.root.sum.b,.int .u64 x.dir.root.sum.c,.int .u64 x.dir.root.sum.d]
def snC (l:List Sn):List (List Value):=l.map Sn.cs
def zrC (n:Nat):List (List Value):=List.replicate n [.int .i64 0,.int .i64 0]
theorem snC_z (l:List Sn):∀ x∈snC l,x.length=15:=by
 intro x hx;obtain ⟨_,_,rfl⟩:=List.mem_map.1 hx;rfl
theorem snC_one (l:List Sn):∀ x∈snC l,∀ v∈x,v.oneCell'=true:=by
 intro x hx v hv
 obtain ⟨r,_,rfl⟩:=List.mem_map.1 hx
 simp only [Sn.cs,List.mem_cons,List.not_mem_nil,or_false] at hv
 rcases hv with rfl | rfl | rfl | rfl | rfl | rfl | rfl | rfl | rfl | rfl | rfl | rfl | rfl | rfl | rfl <;> rfl
theorem snC_len (l:List Sn):(snC l).length=l.length:=by simp [snC]
theorem zrC_len (n:Nat):(zrC n).length=n:=by simp [zrC]
theorem zrC_z (n:Nat):∀ x∈zrC n,x.length=2:=by intro x hx;rw [(List.mem_replicate.1 hx).2];rfl
theorem zrC_one (n:Nat):∀ x∈zrC n,∀ v∈x,v.oneCell'=true:=by
 intro x hx v hv
 rw [(List.mem_replicate.1 hx).2] at hv
 simp at hv
 rw [hv];rfl
abbrev mC (n:Nd) (ss st:Value):Array Value:=#[.int .i64 n.size,.int .i64 n.root.ag,.int .i64 n.root.aa,.int .i64 n.root.bg,.int .i64 n.root.ba,.bool n.root.two,.int .i64 n.root.size,.int .i64 n.root.level,.int .i64 n.root.birth,.int .u64 n.root.sum.a,.int .u64 n.root.sum.b,.int .u64 n.root.sum.c,.int .u64 n.root.sum.d,ss,.int .i64 0,.int .i64 0,.int .i64 0,.int .i64 0,.int .i64 0,.int .i64 0,.int .i64 0,.int .i64 0,.int .i64 0,st]
set_option maxRecDepth 512 in
instance within_fn (n m:Int) (W:World):Fn 149 #[.int .i64 n,.int .i64 m] W (.bool (decide (0<=n) && decide (n<=m))):=by
 refine ⟨?_⟩
 by_cases h:0<=n
 ·have h':decide (0<=n)=true:=by simp [h]
  go_enter Tryz.func149,Tryz.ntmps149
  go_wp2_with fail
  go_ret
  exact Ret.mk (by simp [h]) grown
 ·have h':decide (0<=n)=false:=by simp [h]
  go_enter Tryz.func149,Tryz.ntmps149
  go_wp2_with fail
  go_ret
  exact Ret.mk (by simp [h]) grown
theorem ixI_map {α β:Type} (f:α->β) (p:β->Bool) (l:List α):ixI p (l.map f)=ixI (λ x=>p (f x)) l:=by
 have h1:(l.map f).any p=l.any (λ x=>p (f x)):=by simp [List.any_map,Function.comp_def]
 have h2:(l.map f).findIdx p=l.findIdx (λ x=>p (f x)):=by
  induction l with
  | nil=>rfl
  | cons a l ih=>simp only [List.map_cons,List.findIdx_cons];rw [ih (by simp [List.any_map,Function.comp_def])]
 unfold ixI
 rw [h1,h2]
section
variable (live:Nd) (ad:Option Addr) (cap:Nat) (l:List Sn) (st:Value) (W:World) [R:RdS 15 ad l.length cap (snC l) W]
include R
def hasId (id:Int) (x:Sn):Bool:=x.id == id
theorem find_fn (id:Int) (hl:l.length<=4):Fn 103 #[.agg (mC live (.slice ad l.length cap) st),.int .i64 id] W (.tuple #[.int .i64 (imax (ixI (hasId id) l) 0),.bool (l.any (hasId id))]):=by
 refine ⟨?_⟩
 have hi:∀ (b:Nat) (w:World),Old b w->w.cell? ⟨b,0,none⟩=some (.int .i64 id)->RdS 15 ad l.length cap (snC l) w->Fn 166 #[.slice ad l.length cap,.func (.func 167) #[] #[.pointer (some ⟨b,0,none⟩)]] w (.int .i64 (ixI (hasId id) l)):=λ b w ob hc hr=>by
  haveI:=ixpN ad l.length cap (snC l) w (by omega) 167 (by kernel_rfl) #[.pointer (some ⟨b,0,none⟩)] (λ x=>intOf (x.headD undef) == id) (λ x hx g=>by
   obtain ⟨y,hy,rfl⟩:=List.mem_map.1 hx
   have hc':(gr w g).cell? ⟨b,0,none⟩=some (.int .i64 id):=(cell_gr ..).trans hc
   have hcs:y.cs.toArray=#[.int .i64 y.id,.int .i64 y.txg,.int .i64 y.dir.size,.int .i64 y.dir.root.ag,.int .i64 y.dir.root.aa,.int .i64 y.dir.root.bg,.int .i64 y.dir.root.ba,.bool y.dir.root.two,.int .i64 y.dir.root.size,.int .i64 y.dir.root.level,.int .i64 y.dir.root.birth,.int .u64 y.dir.root.sum.a,.int .u64 y.dir.root.sum.b,.int .u64 y.dir.root.sum.c,.int .u64 y.dir.root.sum.d]:=rfl
   rw [hcs]
   haveI:Old b (gr w g):=ii
   generalize gr w g=w2 at *
   go_enter Tryz.func167,Tryz.ntmps167
   go_wp2_with fail
   go_ret
   exact Ret.mk (by simp [Sn.cs,intOf]) grown) (snC_z l)
  have e:ixI (λ x:List Value=>intOf (x.headD undef) == id) (snC l)=ixI (hasId id) l:=by
   exact ixI_map _ _ _
  rw [<-e]
  infer_instance
 go_enter Tryz.func103,Tryz.ntmps103
 go_wp2_with fail
 refine (hi _ _ ii (by simp [go_sem]) ii).1.mono ?_
 rintro e w1 ⟨rfl,hb⟩
 obtain ⟨g,rfl⟩:=gr_of_below hb
 clear hb
 dsimp only
 obtain ⟨i,hix⟩:∃ i,ixI (hasId id) l=i:=⟨_,rfl⟩
 have hge:=ixI_ge (hasId id) l
 rw [hix] at hge ⊢
 have Hge:=Lib.hid hge
 have Hix:=Lib.hid hix
 clear hge hix hi
 go_wp2_with fail
 go_ret2
 exact Ret.mk (by rw [Hix.out,<- Hge.out];rfl) grown
set_option maxRecDepth 512 in
theorem mcopy_at (n:Nat) (ad2:Option Addr) (cap2:Nat) [R2:RdS 2 ad2 n cap2 (zrC n) W] (hl:l.length<=4) (hn:n<=100) (h0:ad=none->cap=0) (h2:ad2=none->cap2=0) :
  Calls Tryz.prog 94 #[.agg (mC live (.slice ad l.length cap) (.slice ad2 n cap2))] W λ e w'=>∃ ad' cap' ad2' cap2',e=.returned (.agg (mC live (.slice ad' l.length cap') (.slice ad2' n cap2')))/\New1 (star [SlP 125 15 ad' l.length cap' (snC l),SlP 92 2 ad2' n cap2' (zrC n)]) W w':=by
 have CN:∀ w,RdS 15 ad l.length cap (snC l) w->_:=λ w (_:RdS 15 ad l.length cap (snC l) w)=>clnN ad l.length cap (snC l) w (by omega) (snC_z l) (snC_one l) h0
 have CR:∀ w,RdS 2 ad2 n cap2 (zrC n) w->_:=λ w (_:RdS 2 ad2 n cap2 (zrC n) w)=>clnR ad2 n cap2 (zrC n) w (by omega) (zrC_z n) (zrC_one n) h2
 have J1:∀ {l':List SP} {w1 w2:World} {ad':Option Addr} {cap':Nat},Bt W (λ _=>none) l' w1->OwnS 125 15 ad' l.length cap' (snC l).flatten w2 w1->True/\Bt W (λ _=>none) (SlP 125 15 ad' l.length cap' (snC l)::l') w2:=λ {l' w1 w2 ad' cap'} b o=>⟨trivial,b.join o.grw (by
  obtain ⟨hp,a,r,q⟩:=o.slP (snC_len l) (snC_z _)
  exact ⟨hp,r,a,q⟩)⟩
 have J2:∀ {l':List SP} {w1 w2:World} {ad':Option Addr} {cap':Nat},Bt W (λ _=>none) l' w1->OwnS 92 2 ad' n cap' (zrC n).flatten w2 w1->True/\Bt W (λ _=>none) (SlP 92 2 ad' n cap' (zrC n)::l') w2:=λ {l' w1 w2 ad' cap'} b o=>⟨trivial,b.join o.grw (by
  obtain ⟨hp,a,r,q⟩:=o.slP (zrC_len n) (zrC_z _)
  exact ⟨hp,r,a,q⟩)⟩
 haveI:=Bt.zero W
 go_enter Tryz.func94,Tryz.ntmps94
 go_wp2_with fail
 (first | (with_reducible refine pl2 (.q [0,1,3,4] (.g 2 (.q [6] (.g 5 (.x [7] (.q [8] (.x [9] .d))))))) ?_) | refine pl1 (.q [0,1,3,4] (.g 2 (.q [6] (.g 5 (.x [7] (.q [8] (.x [9] .d))))))) ?_);simp only [Plan.run,pick,gZ,gS,gA,gN]
 (repeat go_big_quiet_step (exact qZ));refine nZ ?_
 rintro w1 hw1
 have B1:Bt W (λ _=>none) _ w1:=btCls hw1
 haveI:RdS 15 ad l.length cap (snC l) w1:=by obtain ⟨g,rfl⟩:=hw1;infer_instance
 haveI:RdS 2 ad2 n cap2 (zrC n) w1:=by obtain ⟨g,rfl⟩:=hw1;infer_instance
 go_wp2_with fail
 refine (CN _ ii).mono ?_
 rintro e w2 ⟨ad',cap',rfl,o,_⟩
 obtain ⟨_,B2⟩:=J1 B1 o
 haveI:RdS 2 ad2 n cap2 (zrC n) w2:=by obtain ⟨g,rfl⟩:=o.grw;infer_instance
 dsimp only
 go_wp2_with fail
 dsimp only [Nx]
 refine ⟨clsTr hw1 o.grw,?_⟩
 clear o hw1
 (repeat go_big_quiet_step (exact qZ));refine nZ ?_
 rintro w3 hw3
 have B3:Bt W (λ _=>none) _ w3:=btCls hw3
 haveI:RdS 2 ad2 n cap2 (zrC n) w3:=by obtain ⟨g,rfl⟩:=hw3;infer_instance
 go_wp2_with fail
 refine (CR _ ii).mono ?_
 rintro e w4 ⟨ad2',cap2',rfl,o,_⟩
 obtain ⟨_,B4⟩:=J2 B3 o
 dsimp only
 go_wp2_with fail
 dsimp only [Nx]
 refine ⟨clsTr hw3 o.grw,?_⟩
 clear o hw3
 clear B1 B2 B3
 refine btI ?_
 intro w5 B5
 clear B4
 go_wp2_with fail
 dsimp only [Nx]
 (repeat go_big_quiet_step (exact qZ));refine nZ ?_
 refine btI ?_
 intro w6 B6
 clear B5
 go_wp2_with fail
 dsimp only [Nx]
 rintro w7 hw7
 have B7:Bt W (λ _=>none) [_,_,BlkP (W.heap.size+1) _ _,BlkP W.heap.size (mC live (.slice ad' l.length cap') (.slice ad2' n cap2')) _] w7:=btCls hw7
 clear hw7 B6
 go_wp2_with (first | ((with_reducible apply wpList_load);(·exact rfl);(·exact ii)) | ((with_reducible apply wpList_store);(·exact rfl);(·exact rfl);(·exact ii)))
 (refine bodyPost_ret (results_c (z:=24) rfl _ _ _ _ rfl inferInstance Tryz.underlying78 rfl (by kernel_rfl)) rfl ?_)
 have B8:Bt W (λ _=>none) (_::_::_) (w7.setRow (W.heap.size+1) (mC live (.slice ad' l.length cap') (.slice ad2' n cap2'))):=ii
 exact ⟨ad',cap',ad2',cap2',rfl,((B8.perm (List.Perm.swap ..)).app [_,_]).new1⟩
end
structure SnOk (s:Slc) (secs:Int) (l:List Sn):Prop where
 len:l.length<=4
 id:∀ x∈l,0<=x.id/\x.id<=99
 txg:∀ x∈l,1<=x.txg/\x.txg<=4294967295
 dir:∀ x∈l,NdOk s secs x.dir
 up:∀ (k:Nat) (x y:Sn),l[k]?=some x->l[k+1]?=some y->x.txg<=y.txg
 ne:∀ (j k:Nat) (x y:Sn),l[j]?=some x->l[k]?=some y->j < k->x.id≠y.id
instance (priority:=low) cellsNewI (W:World) (n:Nat) (cs:Array Value) (t:TypeId) [k:SizeIs W n]:CellsIn (W.alloc (.cells cs t)) n cs:=by
 have h:=k.h
 subst h
 exact ⟨t,alloc_heap_new ..⟩
section
variable (s:Slc) (secs:Int) (W:World) [k:Geo s secs] [m:GM s W] (live:Nd) (ad:Option Addr) (cap:Nat) (l:List Sn) (st:Value) [R:RdS 15 ad l.length cap (snC l) W]
include k m R
theorem snaps_fn (ok:SnOk s secs l) (hcap:l.length<=cap):Fn 146 #[.agg #[.slice s.ad s.len s.cap,.int .i64 secs],.slice ad l.length cap] W (.bool true):=by
 refine ⟨?_⟩
 have NR:∀ (n:Nd) (w:World),GM s w->NdOk s secs n->Fn 145 #[.agg #[.slice s.ad s.len s.cap,.int .i64 secs],.agg n.cs] w (.bool true):=λ n w _ h=>nright_fn s secs w n h
 have CF:∀ (i:Nat) (x:Sn) (b:Nat) (w:World),l[i]?=some x->CellsIn w b x.cs.toArray->RdS 15 ad l.length cap (snC l) w->Fn 210 #[.slice ad i cap,.func (.func 211) #[] #[.pointer (some ⟨b,0,none⟩)]] w (.bool false):=λ i x b w hi hb hr=>by
  have hil:i < l.length:=(List.getElem?_eq_some_iff.1 hi).1
  have hl4:=ok.len
  haveI:=hr.takeR i cap (by omega)
  have e:((snC l).take i).any (λ y=>intOf (y.headD undef) == x.id)=false:=by
   rw [List.any_eq_false]
   intro y hy
   obtain ⟨j,hj,hjy⟩:=List.getElem_of_mem hy
   have hj':j < i:=by simp at hj;omega
   have hlj:l[j]?=some l[j]:=List.getElem?_eq_getElem (by omega)
   have:=ok.ne j i _ _ hlj hi hj'
   rw [List.getElem_take] at hjy
   simp only [snC,List.getElem_map] at hjy
   rw [<-hjy]
   simpa [Sn.cs,intOf] using this
  rw [<-e]
  refine cfN ad i cap ((snC l).take i) w (by omega) 211 (by kernel_rfl) #[.pointer (some ⟨b,0,none⟩)] _ (λ y hy g=>?_) (λ y hy=>snC_z l y (List.mem_of_mem_take hy))
  obtain ⟨y,hy,rfl⟩:=List.mem_map.1 (List.mem_of_mem_take hy)
  have hcs:y.cs.toArray=#[.int .i64 y.id,.int .i64 y.txg,.int .i64 y.dir.size,.int .i64 y.dir.root.ag,.int .i64 y.dir.root.aa,.int .i64 y.dir.root.bg,.int .i64 y.dir.root.ba,.bool y.dir.root.two,.int .i64 y.dir.root.size,.int .i64 y.dir.root.level,.int .i64 y.dir.root.birth,.int .u64 y.dir.root.sum.a,.int .u64 y.dir.root.sum.b,.int .u64 y.dir.root.sum.c,.int .u64 y.dir.root.sum.d]:=rfl
  rw [hcs]
  have hci:CellsIn (gr w g) b x.cs.toArray:=ii
  have hc':(gr w g).cell? ⟨b,0,none⟩=some (.int .i64 x.id):=by rw [cell_in _ b 0 x.cs.toArray];rfl
  haveI:Old b (gr w g):=CellsIn.old hci
  clear hci hb
  generalize gr w g=w2 at *
  go_enter Tryz.func211,Tryz.ntmps211
  go_wp2_with fail
  go_ret
  exact Ret.mk (by simp [Sn.cs,intOf]) grown
 have hl4:=ok.len
 go_enter Tryz.func146,Tryz.ntmps146
 go_wp2_with fail
 go_loopw [9] (λ i wr=>∃ k:Nat,k<=l.length/\i=.int .i64 k/\∃ g,wr=gr (W.alloc (.cells #[.slice s.ad s.len s.cap,.int .i64 secs] 24)) g) (λ i _=>l.length - (intOf i).toNat)
 case atStart=>exact ⟨0,Nat.zero_le _,rfl,ex_gr _⟩
 case round =>
  obtain ⟨k,hk,rfl,g,rfl⟩:=hrel
  by_cases hlt:k < l.length
  ·obtain ⟨x,hx⟩:∃ x,l[k]?=some x:=⟨_,List.getElem?_eq_getElem hlt⟩
   have hxm:=List.mem_of_getElem? hx
   have hcs:x.cs.toArray=#[.int .i64 x.id,.int .i64 x.txg,.int .i64 x.dir.size,.int .i64 x.dir.root.ag,.int .i64 x.dir.root.aa,.int .i64 x.dir.root.bg,.int .i64 x.dir.root.ba,.bool x.dir.root.two,.int .i64 x.dir.root.size,.int .i64 x.dir.root.level,.int .i64 x.dir.root.birth,.int .u64 x.dir.root.sum.a,.int .u64 x.dir.root.sum.b,.int .u64 x.dir.root.sum.c,.int .u64 x.dir.root.sum.d]:=rfl
   have CX:=λ b w=>CF k x b w hx
   rw [hcs] at CX
   have i1:=ok.id x hxm
   have t1:=ok.txg x hxm
   have NX:∀ w,[GM s w]->Fn 145 #[.agg #[.slice s.ad s.len s.cap,.int .i64 secs],.agg #[.int .i64 x.dir.size,.int .i64 x.dir.root.ag,.int .i64 x.dir.root.aa,.int .i64 x.dir.root.bg,.int .i64 x.dir.root.ba,.bool x.dir.root.two,.int .i64 x.dir.root.size,.int .i64 x.dir.root.level,.int .i64 x.dir.root.birth,.int .u64 x.dir.root.sum.a,.int .u64 x.dir.root.sum.b,.int .u64 x.dir.root.sum.c,.int .u64 x.dir.root.sum.d]] w (.bool true):=λ w _=>NR x.dir w ‹_› (ok.dir x hxm)
   have CI:∀ b w,[CellsIn w b #[.int .i64 x.id,.int .i64 x.txg,.int .i64 x.dir.size,.int .i64 x.dir.root.ag,.int .i64 x.dir.root.aa,.int .i64 x.dir.root.bg,.int .i64 x.dir.root.ba,.bool x.dir.root.two,.int .i64 x.dir.root.size,.int .i64 x.dir.root.level,.int .i64 x.dir.root.birth,.int .u64 x.dir.root.sum.a,.int .u64 x.dir.root.sum.b,.int .u64 x.dir.root.sum.c,.int .u64 x.dir.root.sum.d]]->[RdS 15 ad l.length cap (snC l) w]->Fn 210 #[.slice ad k cap,.func (.func 211) #[] #[.pointer (some ⟨b,0,none⟩)]] w (.bool false):=λ b w c r=>CX b w c r
   clear CF NR CX
   have e1:decide (x.txg < 1)=false:=decide_eq_false (by omega)
   have e2:decide (4294967295 < x.txg)=false:=decide_eq_false (by omega)
   obtain ⟨b,o,rfl,hob,hoc⟩:=R.cells k x.cs (by simp [snC,hx])
   haveI:SubAt b (o+k*15) x.cs.toArray 15 W:=⟨rfl,hob,λ j v e=>hoc j v e⟩
   rw [hcs] at this
   have hkc:k<=cap:=by omega
   clear hoc hcs
   have hpre:(decide (0 < k)=false)\/∃ j y,k=j+1/\l[j]?=some y/\W.cell? ⟨b,o+j*15+1,none⟩=some (.int .i64 y.txg)/\decide (x.txg < y.txg)=false:=by
    rcases Nat.eq_zero_or_pos k with h | h
    ·exact .inl (decide_eq_false (by omega))
    ·obtain ⟨j,rfl⟩:∃ j,k=j+1:=⟨k - 1,by omega⟩
     obtain ⟨y,hy⟩:∃ y,l[j]?=some y:=⟨_,List.getElem?_eq_getElem (by omega)⟩
     obtain ⟨b',o',e,_,hc⟩:=R.cells j y.cs (by simp [snC,hy])
     cases e
     exact .inr ⟨j,y,rfl,hy,hc 1 _ rfl,decide_eq_false (by have:=ok.up j y x hy hx;omega)⟩
   have Hpre:=Lib.hid hpre
   clear hpre
   go_wp2_with (first | (with_reducible refine Fn.go λ g=>?_) | ((with_reducible apply wpList_load);(·exact rfl);(·exact ii)) | ((with_reducible apply wpList_loadg);(·exact rfl);(·exact rfl);(·exact ii)) | ((with_reducible apply wpList_store);(·exact rfl);(·exact rfl);(·exact ii)))
   (first | (with_reducible refine pl2 (.q [0,1,2,3,4,5,6,7,8,9,10,11,12,13,14,15,16,17] (.x [18] (.q [19] .d))) ?_) | refine pl1 (.q [0,1,2,3,4,5,6,7,8,9,10,11,12,13,14,15,16,17] (.x [18] (.q [19] .d))) ?_);simp only [Plan.run,pick,gZ,gS,gA,gN]
   rcases Hpre.out with e0 | ⟨j,y,rfl,hy,hc1,e3⟩
   ·(repeat go_big_quiet_step (exact qZ));refine nZ ?_
    rintro w3 ⟨g3,rfl⟩
    go_wp2_with (with_reducible refine Fn.go λ g=>?_)
    dsimp only [Nx]
    (repeat go_big_quiet_step (exact qZ));refine nZ ?_
    rintro w5 hw5
    obtain ⟨g5,rfl⟩:=hw5
    go_wp2_with fail
    simp only [gr_alloc,gr_gr]
    exact ⟨⟨k+1,hlt,by go_num,_,rfl⟩,by simp [intOf];omega⟩
   ·(repeat go_big_quiet_step (exact qZ));refine nZ ?_
    rintro w3 ⟨g3,rfl⟩
    go_wp2_with (with_reducible refine Fn.go λ g=>?_)
    dsimp only [Nx]
    (repeat go_big_quiet_step (exact qZ));refine nZ ?_
    rintro w5 hw5
    obtain ⟨g5,rfl⟩:=hw5
    go_wp2_with fail
    simp only [gr_alloc,gr_gr]
    exact ⟨⟨j+1+1,hlt,by go_num,_,rfl⟩,by simp [intOf];omega⟩
  ·obtain rfl:l.length=k:=by omega
   go_wp2_with fail
   go_ret
   exact Ret.mk (by simp;omega) grown
end
set_option maxRecDepth 512 in
theorem numbers_at (W:World):Calls Tryz.prog 113 #[.agg #[.int .i64 0,.int .i64 0,.int .i64 0,.int .i64 0,.int .i64 0,.int .i64 0,.int .i64 0,.int .i64 0,.int .i64 0]] W λ e w'=>∃ b,e=.returned (.slice (some ⟨b,0,none⟩) 9 9)/\RdS 1 (some ⟨b,0,none⟩) 9 9 (List.replicate 9 [.int .i64 0]) w'/\∃ g,w'=gr W g:=by
 go_enter Tryz.func113,Tryz.ntmps113
 go_wp2_with fail
 go_ret
 refine ⟨_,rfl,?_,gr_of_below grown⟩
 rw [<-World.size_alloc (w:=W)]
 exact rds_new (z:=1) (xs:=List.replicate 9 [.int .i64 0]) rfl rfl (by simp)
set_option maxRecDepth 512 in
theorem right1m (W:World):Calls Tryz.prog 148 #[.int .i64 0] W (Ret (.bool false) W):=by
 go_enter Tryz.func148,Tryz.ntmps148
 go_wp2_with (with_reducible refine Fn.go λ g=>?_)
 go_ret
 exact Ret.mk rfl grown
set_option maxRecDepth 512 in
theorem right2m (W:World):Calls Tryz.prog 151 #[.agg #[.int .i64 0,.int .i64 0]] W (Ret (.bool false) W):=by
 go_enter Tryz.func151,Tryz.ntmps151
 go_wp2_with (with_reducible refine Fn.go λ g=>?_)
 go_ret
 exact Ret.mk rfl grown
set_option maxRecDepth 512 in
theorem mright_at (s:Slc) (secs:Int) (W:World) [k:Geo s secs] [m:GM s W] (live:Nd) (ad:Option Addr) (cap:Nat) (l:List Sn) [R:RdS 15 ad l.length cap (snC l) W] (n:Nat) (ad2:Option Addr) (cap2:Nat) [R2:RdS 2 ad2 n cap2 (zrC n) W]
  (ok:SnOk s secs l) (hcap:l.length<=cap) (hlive:NdOk s secs live) (hn:sumW s s.len=n) :
  Fn 84 #[.agg #[.slice s.ad s.len s.cap,.int .i64 secs],.agg (mC live (.slice ad l.length cap) (.slice ad2 n cap2))] W (.bool true):=by
 refine ⟨?_⟩
 have hn100:n<=100:=by have:=sumW_le k.h s.len (Nat.le_refl _);have:=k.h.2.1;omega
 have NR:∀ w,[GM s w]->Fn 145 #[.agg #[.slice s.ad s.len s.cap,.int .i64 secs],.agg #[.int .i64 live.size,.int .i64 live.root.ag,.int .i64 live.root.aa,.int .i64 live.root.bg,.int .i64 live.root.ba,.bool live.root.two,.int .i64 live.root.size,.int .i64 live.root.level,.int .i64 live.root.birth,.int .u64 live.root.sum.a,.int .u64 live.root.sum.b,.int .u64 live.root.sum.c,.int .u64 live.root.sum.d]] w (.bool true):=λ w _=>nright_fn s secs w live hlive
 have SF:∀ w,[GM s w]->[RdS 15 ad l.length cap (snC l) w]->Fn 146 #[.agg #[.slice s.ad s.len s.cap,.int .i64 secs],.slice ad l.length cap] w (.bool true):=λ w _ _=>snaps_fn s secs w ad cap l ok hcap
 have DV:∀ w,[GM s w]->Fn 42 #[.agg #[.slice s.ad s.len s.cap,.int .i64 secs]] w (.int .i64 n):=λ w _=>by rw [<-hn];infer_instance
 have C1:∀ b w,[RdS 1 (some ⟨b,0,none⟩) 9 9 (List.replicate 9 [.int .i64 0]) w]->Fn 147 #[.slice (some ⟨b,0,none⟩) 9 9,.func (.func 148) #[] #[]] w (.bool false):=λ b w _ =>
  cfI (some ⟨b,0,none⟩) 9 9 (List.replicate 9 [.int .i64 0]) w (by omega) 148 (by kernel_rfl) #[] (λ _=>false) (λ x hx g=>by
   have e:=(List.mem_replicate.1 hx).2
   cases e
   exact right1m _) (by simp)
 have C2:∀ w,[RdS 2 ad2 n cap2 (zrC n) w]->Fn 150 #[.slice ad2 n cap2,.func (.func 151) #[] #[]] w (.bool false):=λ w _=>by
  have:=cfR ad2 n cap2 (zrC n) w (by omega) 151 (by kernel_rfl) #[] (λ _=>false) (λ x hx g=>by
   rw [(List.mem_replicate.1 hx).2]
   exact right2m _) (zrC_z n)
  rw [show ((zrC n).any λ _=>false)=false by simp] at this
  exact this
 clear ok hcap hlive hn
 go_enter Tryz.func84,Tryz.ntmps84
 go_wp2_with fail
 (first | (with_reducible refine pl2 (.q [0,1,2,3,4,5,6,7,8,9,10,11,12,13,14,15,16,17,18,19,20,21,22,23,24,25,26,27,28,29,30] .d) ?_) | refine pl1 (.q [0,1,2,3,4,5,6,7,8,9,10,11,12,13,14,15,16,17,18,19,20,21,22,23,24,25,26,27,28,29,30] .d) ?_);simp only [Plan.run,pick,gZ,gS,gA,gN]
 (repeat go_big_quiet_step (exact qZ));refine nZ ?_
 rintro w1 ⟨g1,rfl⟩
 go_wp2_with ((with_reducible apply wpList_load);(·exact rfl);(·exact ii))
 refine (numbers_at _).mono ?_
 rintro e w2 ⟨b,rfl,R9,g2,rfl⟩
 rw [gr_gr] at R9
 dsimp only
 go_wp2_with (with_reducible refine Fn.go λ g=>?_)
 go_ret
 exact Ret.mk rfl grown
end Go.Proofs.YtlfjdjndhcmliaaGreatDoor
