/- WholeOld, part 30. -/
import Derived.Test.YtlfjdjndhcmliaaGreatDoorA29
set_option maxRecDepth 100000
set_option maxHeartbeats 4000000
set_option linter.all false
namespace Go.Proofs.YtlfjdjndhcmliaaGreatDoor
open Go.RowKit Go.Sort
theorem Qn{V:VD}{st bb:Nat}{sb:ZO}{txg keep:Nat}{meta_:Bool}(hk:keep<=1000)(hx:1<=txg/\txg<=4294967295):VT st (Qe V st bb sb txg keep meta_) where
 get K c p t h:=Zgn K c p t h
 put K c t lv hc hl h0 h1 h2:=ZgL K c t lv hc hl h0 h1 h2 hk hx
 less K c c' hc h s:=by
  obtain⟨dn,N,F,ms,es,ok,s⟩:=s;exact⟨dn,N,F,ms,es,ok.less hc rfl,star.map (i:=1) s rfl λ h p=>Ul.less hc p⟩
 sub K K' c hl h s:=by
  obtain⟨dn,N,F,ms,es,ok,s⟩:=s;exact⟨dn,N,F,ms,es,⟨ok.same,⟨λ p t hp=>ok.kept.held p t (hl p t hp),λ p t hp=>ok.kept.used p t (hl p t hp),λ p q t t' hp hq=>ok.kept.apart p q t t' (hl p t hp) (hl q t' hq)⟩,ok.bd,ok.ring,ok.ro⟩,s⟩
 fit K c h p t s hp:=by
  obtain⟨dn,N,F,ms,es,ok,s⟩:=s;exact⟨(ok.kept.held p t hp).fit⟩
instance Zqv:XF 24 2:=⟨λ W b o cs _=>ZS W b o 2 cs _ _ Tryz.underlying24 rfl (by kernel_rfl)⟩
instance Zqe:XF 31 4:=⟨λ W b o cs _=>ZS W b o 4 cs _ _ Tryz.underlying31 rfl (by kernel_rfl)⟩
instance Zqd:XF 54 14:=⟨λ W b o cs _=>ZS W b o 14 cs _ _ Tryz.underlying54 rfl (by kernel_rfl)⟩
instance ZqH:XF 75 9:=⟨λ W b o cs _=>ZS W b o 9 cs _ _ Tryz.underlying75 rfl (by kernel_rfl)⟩
instance Zqf:XF 78 24:=⟨λ W b o cs _=>ZS W b o 24 cs _ _ Tryz.underlying78 rfl (by kernel_rfl)⟩
theorem Kw{w w':World}(h:YL w w')(o:Obj):∃ g,w'.alloc o=gr w g:=by obtain⟨g,rfl⟩:=h;exact⟨_,ZK ..⟩
theorem Zku{w w':World}(h:YL w w')(g:Gr):∃ g',gr w' g=gr w g':=by obtain⟨g,rfl⟩:=h;exact⟨_,ZW ..⟩
theorem yJ{w w' w2:World}(h:YL w w')(h2:∃ g,w2=gr w' g):∃ g',w2=gr w g':=by obtain⟨g,rfl⟩:=h;obtain⟨g,rfl⟩:=h2;exact⟨_,ZW ..⟩
instance Zq3:ElZ 36 3 (.int .i64 0):=VK Tryz.underlying36 (b:=8) (by kernel_rfl) (by omega) rfl
theorem kZ{s:ZO}{secs:Int}(h:ZT s secs){g:Nat}(hg:g<s.len):1<=Q8 s secs g/\Q8 s secs g<=65536:=by
 obtain⟨w1,w2,w3⟩:=Yk h hg;have h3:=h.2.2.1;have h4:=h.2.2.2.1;unfold Q8;rw [if_pos ⟨by omega,by omega⟩];unfold JH;rw [show ((g:Int)).toNat=g by omega];split
 ·constructor
  ·have:=Int.mul_le_mul (show (1:Int)<=secs-16 by omega) (show (1:Int)<=s.y g by omega) (by omega) (by omega);omega
  ·have:=Int.mul_le_mul (show secs-16<=(4096:Int) by omega) (show s.y g<=(8:Int) by omega) (by omega) (by omega);omega
 ·omega
theorem Zh6(n:Nat):(Y0 (List.replicate n 0)).flatten=List.replicate n (.int .i64 0):=by
 induction n with
 |zero=>rfl
 |succ n ih=>simp only [List.replicate_succ,Y0,List.map_cons,List.flatten_cons]at ih ⊢;rw [ih];rfl
def XI(s:ZO)(secs:Int)(bs:List Nat):List MD:=bs.zipIdx.map λ p=>(p.1,(Q8 s secs p.2).toNat,[])
theorem qi(s:ZO)(secs:Int)(bs:List Nat):(XI s secs bs).length=bs.length:=by simp [XI]
theorem UI(s:ZO)(secs:Int)(bs:List Nat)(b:Nat):XI s secs (bs++[b])=XI s secs bs++[(b,(Q8 s secs bs.length).toNat,[])]:=by simp [XI,List.zipIdx_append]
theorem Zbx{s:ZO}{secs:Int}{bs:List Nat}{g:Nat}{m:MD}(h:(XI s secs bs)[g]?=some m):m.2=((Q8 s secs g).toNat,[]):=by
 simp only [XI,List.getElem?_map,List.getElem?_zipIdx,Option.map_map]at h;cases e:bs[g]? with
 |none=>rw [e]at h;cases h
 |some b=>rw [e]at h;simp at h;rw [<-h]
theorem Zbw{s:ZO}{secs:Int}(h:ZT s secs){bs:List Nat}(hl:bs.length=s.len):zS s secs (XI s secs bs) (List.replicate s.len 0) :=
 ⟨h,(qi ..).trans hl,List.length_replicate ..,λ g m hg=>by
  have h1:=Zbx hg;have h2:g<s.len:=by have:=(List.getElem?_eq_some_iff.1 hg).1;rw [qi,hl]at this;exact this
  have:=kZ h h2
  rw [h1];show ((Q8 s secs g).toNat:Int)=_;omega,λ g e m he _=>by rw [(List.mem_replicate.1 (List.mem_of_getElem? he)).2];exact Nat.zero_le _⟩
theorem ZaG(s:ZO)(g cap:Nat):X6 (s.at_ g cap) s:=⟨rfl,rfl,rfl⟩
theorem Zc6(s:ZO)(secs:Nat)[gk:Ky s secs](W:World)[gm:GM s W](hb:s.blk<W.heap.size) :
  Calls Tryz.prog 73 #[.agg #[.slice s.ad s.len s.cap,.int .i64 secs]] W λ e w' =>
   ∃ bb g cap bs,e=.returned (.tuple #[.pointer (some ⟨bb,0,none⟩),.int .i64 0])/\zP (star [X9 (s.at_ g cap),ZV bb (s.at_ g cap) secs (XI s secs bs) (List.replicate s.len 0)]) W w':=by
 have hgood:=gk.h;have hn4:s.len<=4:=hgood.2.1
 have CL:∀ W',GM s W'->_:=λ W' m=>by
  haveI:=GM.rd m;exact Zmr s.ad s.len s.cap (JM s) W' (by have:=hgood.2.1;omega) (by simp [JM]) (by simp [JM,Value.oneCell']) (λ e=>by rw [m.addr 0 (by have:=hgood.1;omega)]at e;cases e)
 have J1:∀ {l:List SP} {w1 w2:World} {g2 cap':Nat},GM s w1->Bt W (λ _=>none) l w1->ZC 67 2 (some ⟨g2,0,none⟩) s.len cap' (JM s).flatten w2 w1->Bt W (λ _=>none) (X9 (s.at_ g2 cap')::l) w2/\GM s w2:=λ {l w1 w2 g2 cap'} m b o=>⟨b.join o.grw (by
  obtain⟨hp,a,r,q⟩:=Qy o (by simp [JM]) (by simp [JM])
  exact⟨hp,Zf4 r,a,q⟩),by obtain⟨g,rfl⟩:=o.grw;infer_instance⟩
 have J2:∀ {l:List SP} {w1 w2:World} {ad:Option Addr} {n cap':Nat},Bt W (λ _=>none) l w1->ZC 3 1 ad n cap' (List.replicate n (.int .i64 0)) w2 w1->True/\Bt W (λ _=>none) (Zw 3 1 ad n cap' (Y0 (List.replicate n 0))::l) w2:=λ {l w1 w2 ad n cap'} b o=>⟨trivial,b.join o.grw (by
  rw [<-Zh6]at o;obtain⟨hp,a,r,q⟩:=o.slP (by rw [Zba,List.length_replicate]) (ZbM _)
  exact⟨hp,r,a,q⟩)⟩
 haveI:=Bt.zero W
 go_in
 go_wp2_with(first|(with_reducible refine Fn.go λ g=>?_)|((with_reducible apply Za);(·exact rfl);(·exact ii)));go_wp2_with fail;refine plZ (.q [0,1,3,4,6,7,8] (.z 2 9 (.q [5] (.g 9 (.q [10] (.g 11 (.q [12] .d))))) (.g 2 (.q [5,10] (.g 11 (.q [12] .d)))))) ?_;simp only [Zk.run,pick,gZ,gS,gA,gN]
 (repeat go_big_quiet_step (exact qZ));refine nZ ?_
 refine⟨?_,?_⟩
 ·rintro w1 hw1;have B1:Bt W _ _ w1:=Ze hw1;haveI gm1:GM s w1:=by obtain⟨g,rfl⟩:=hw1;infer_instance
  go_wp2_with fail;refine(CL _ ii).mono ?_;rintro e w2 ⟨ad',cap',rfl,o,hne⟩;obtain⟨g2,rfl⟩:=o.some_ (.inr hgood.1);obtain⟨B2,gm2⟩:=J1 gm1 B1 o;dsimp only;go_wp2_with fail;dsimp only [Nx];refine⟨yJ hw1 o.grw,?_⟩;clear o hne hw1
  (repeat go_big_quiet_step (exact qZ));refine nZ ?_
  rintro w3 hw3;have B3:=B2.cls hw3;go_wp2_with((with_reducible apply YP);(·exact rfl);(·exact rfl);(·omega);intro gM hMk);obtain⟨_,B4⟩:=J2 B3 hMk;dsimp only [Nx];refine⟨Zku hw3 _,?_⟩;clear hw3;go_frame
  (repeat go_big_quiet_step (exact qZ));refine nZ ?_
  rintro w5 hw5;have B5:=B4.cls hw5;clear B4 B3 B2 B1;go_wp2_with fail;dsimp only [Nx];refine⟨Kw hw5 _,?_⟩
  (repeat go_big_quiet_step (exact qZ));refine nZ ?_
  rintro w7 hw7;have B6:Bt W _ _ w7:=Ze hw7;clear hw5;have B7:Bt W (λ _=>none) [Zd w5.heap.size _ _,Zd W.heap.size _ _,X9 _,Zw _ _ _ _ _ _] w7:=(B6.perm ((List.Perm.cons _ (List.perm_append_comm (l₁:=[_,_]) (l₂:=[_]))).trans (.cons _ (.cons _ (.swap ..)))))
  generalize w5.heap.size=bb at B7 ⊢;clear hw7 B6 B5;have B8:=(B7.more (Zw.nil 138 1 _)).more (p:=star (XJ [])) trivial;simp only [List.cons_append,List.nil_append]at B8;clear B7;go_wp2_with fail
  go_loopw [26] (λ i wr=>∃(k:Nat)(bs:List Nat)(ad2:Option Addr)(cap2:Nat),k<=s.len/\i=.int .i64 k/\bs.length=k/\Bt W (λ _=>none) [Zd bb #[.slice (some ⟨g2,0,none⟩) s.len cap',.int .i64 secs,.slice ad2 k cap2,.slice (some ⟨w3.heap.size,0,none⟩) s.len s.len] 136,Zd W.heap.size #[.slice s.ad s.len s.cap,.int .i64 secs] 24,X9 (s.at_ g2 cap'),Zw 3 1 (some ⟨w3.heap.size,0,none⟩) s.len s.len (Y0 (List.replicate s.len 0)),Zw 138 1 ad2 k cap2 (QC (XI s secs bs)),star (XJ (XI s secs bs))] wr)
   (λ i _=>s.len-(intOf i).toNat)
  case atStart=>exact⟨0,[],none,0,Nat.zero_le _,rfl,rfl,B8⟩
  case round =>
   clear B8;obtain⟨k,bs,ad2,cap2,hk,rfl,hbs,B⟩:=hrel;have hg:=B.gr_of;haveI:GM s wr:=by obtain⟨g,e⟩:=hg;rw [e];infer_instance
   by_cases hlt:k<s.len
   ·have hsz:=kZ hgood hlt;obtain⟨z,hz⟩:∃ z:Nat,Q8 s secs k=z:=Int.eq_ofNat_of_zero_le (by omega);have HS:∀ w,[GM s w]->Fn 132 #[.agg #[.slice s.ad s.len s.cap,.int .i64 secs],.int .i64 k] w (.int .i64 z):=λ w _=>by rw [<-hz];infer_instance
    have SN:=ZcR z (by omega) (by omega);have Hz:=Lib.hid hz;have Hb:=Lib.hid hbs;clear hz hsz hbs;go_wp2_with(first|(with_reducible refine Fn.go λ g=>?_)|((with_reducible apply Za);(·exact rfl);(·exact ii)));refine(SN _).mono ?_;rintro e w2 ⟨mb,rfl,hg2,hn2⟩;have B2:=Bt.join (w:=gr wr ‹Gr›) ii hg2 hn2;clear hg2 hn2 B;dsimp only;go_wp2_with(at_builtin;(with_reducible apply ZI);(·exact rfl);(·exact rfl);(·exact ii);(·exact ii);(·exact ii);(·exact rfl);(·decide);(·omega);intro gA capA wA bA;(try dsimp only at bA));have B9:Bt W (λ _=>none) _ (wA.setCell ⟨bb,2,none⟩ (.slice (some ⟨gA,0,none⟩) (k+1) capA)):=ii;generalize wA.setCell ⟨bb,2,none⟩ (.slice (some ⟨gA,0,none⟩) (k+1) capA)=wz at B9 ⊢;have B10:Bt W (λ _=>none) (star (XJ (XI s secs bs))::_) wz:=B9.drop.front (i:=6) rfl;have B11:Bt W (λ _=>none) (star (XJ (XI s secs bs)++[KC mb z []])::[_,_,_,_,_]) wz:=⟨(B10.perm (List.Perm.swap ..)).t.mono λ _ s=>s.join⟩
    have e1:XI s secs (bs++[mb])=XI s secs bs++[(mb,z,[])]:=by rw [UI,Hb.out,Hz.out];rfl
    refine⟨⟨k+1,bs++[mb],some ⟨gA,0,none⟩,capA,hlt,by go_num,by simp [Hb.out],?_⟩,by simp [intOf];omega⟩;rw [e1,ja,qG];exact B11.perm (List.perm_append_singleton _ _).symm
   ·obtain rfl:s.len=k:=by omega
    go_wp2_with fail;go_ret2;have e1:s.len=(XI s secs bs).length:=by rw [qi,hbs]
    have e2:(List.replicate s.len 0).length=s.len:=List.length_replicate ..;refine⟨bb,g2,cap',bs,rfl,?_⟩;have B9:Bt W (λ _=>none) [_,_,_,_,_] wr:=(B.perm (List.Perm.swap ..)).drop
    have B10:Bt W (λ _=>none) [Zd bb #[.slice (some ⟨g2,0,none⟩) s.len cap',.int .i64 secs,.slice ad2 (XI s secs bs).length cap2,.slice (some ⟨w3.heap.size,0,none⟩) (List.replicate s.len 0).length s.len] 136,Zw 138 1 ad2 (XI s secs bs).length cap2 (QC (XI s secs bs)),Zw 3 1 (some ⟨w3.heap.size,0,none⟩) (List.replicate s.len 0).length s.len (Y0 (List.replicate s.len 0)),star (XJ (XI s secs bs)),X9 (s.at_ g2 cap')] wr:=by
     rw [e2,<- e1];exact(((B9.front (i:=4) rfl).front (i:=3) rfl).front (i:=4) rfl).front (i:=3) rfl
    exact((((B10.app [_,_,_,_]).head λ h sh=>⟨Zbw (s:=s.at_ g2 cap') hgood hbs,_,_,_,_,sh⟩).perm (List.Perm.swap ..)).app [_,_]).new1
 ·rintro w1 hw1;have B1:Bt W _ _ w1:=Ze hw1;haveI gm1:GM s w1:=by obtain⟨g,rfl⟩:=hw1;infer_instance
  go_wp2_with((with_reducible apply YP);(·exact rfl);(·exact rfl);(·omega);intro gM hMk);obtain⟨_,B2⟩:=J2 B1 hMk;haveI gm2:GM s (gr w1 gM):=ii;dsimp only [Nx];refine⟨Zku hw1 _,?_⟩;clear hw1;go_frame;rintro w2 hw2;have B3:Bt W _ _ w2:=B2.cls hw2;haveI gm3:GM s w2:=by obtain⟨g,rfl⟩:=hw2;infer_instance
  clear B2 B1;go_wp2_with fail;refine(CL _ ii).mono ?_;rintro e w3 ⟨ad',cap',rfl,o,hne⟩;obtain⟨g2,rfl⟩:=o.some_ (.inr hgood.1);obtain⟨B4,gm4⟩:=J1 gm3 B3 o;dsimp only;go_wp2_with fail;dsimp only [Nx];refine⟨yJ hw2 o.grw,?_⟩;clear o hne hw2
  (repeat go_big_quiet_step (exact qZ));refine nZ ?_
  rintro w5 hw5;have B5:=B4.cls hw5;clear B4 B3;go_wp2_with fail;dsimp only [Nx];refine⟨Kw hw5 _,?_⟩
  (repeat go_big_quiet_step (exact qZ));refine nZ ?_
  rintro w7 hw7;have B6:Bt W _ _ w7:=Ze hw7;clear hw5;have B7:Bt W (λ _=>none) [Zd w5.heap.size _ _,Zd W.heap.size _ _,X9 _,Zw _ _ _ _ _ _] w7:=(B6.perm (List.Perm.cons _ (List.perm_append_comm (l₁:=[_,_]) (l₂:=[_]))))
  generalize w5.heap.size=bb at B7 ⊢;clear hw7 B6 B5;have B8:=(B7.more (Zw.nil 138 1 _)).more (p:=star (XJ [])) trivial;simp only [List.cons_append,List.nil_append]at B8;clear B7;go_wp2_with fail
  go_loopw [26] (λ i wr=>∃(k:Nat)(bs:List Nat)(ad2:Option Addr)(cap2:Nat),k<=s.len/\i=.int .i64 k/\bs.length=k/\Bt W (λ _=>none) [Zd bb #[.slice (some ⟨g2,0,none⟩) s.len cap',.int .i64 secs,.slice ad2 k cap2,.slice (some ⟨w1.heap.size,0,none⟩) s.len s.len] 136,Zd W.heap.size #[.slice s.ad s.len s.cap,.int .i64 secs] 24,X9 (s.at_ g2 cap'),Zw 3 1 (some ⟨w1.heap.size,0,none⟩) s.len s.len (Y0 (List.replicate s.len 0)),Zw 138 1 ad2 k cap2 (QC (XI s secs bs)),star (XJ (XI s secs bs))] wr)
   (λ i _=>s.len-(intOf i).toNat)
  case atStart=>exact⟨0,[],none,0,Nat.zero_le _,rfl,rfl,B8⟩
  case round =>
   clear B8;obtain⟨k,bs,ad2,cap2,hk,rfl,hbs,B⟩:=hrel;have hg:=B.gr_of;haveI:GM s wr:=by obtain⟨g,e⟩:=hg;rw [e];infer_instance
   by_cases hlt:k<s.len
   ·have hsz:=kZ hgood hlt;obtain⟨z,hz⟩:∃ z:Nat,Q8 s secs k=z:=Int.eq_ofNat_of_zero_le (by omega);have HS:∀ w,[GM s w]->Fn 132 #[.agg #[.slice s.ad s.len s.cap,.int .i64 secs],.int .i64 k] w (.int .i64 z):=λ w _=>by rw [<-hz];infer_instance
    have SN:=ZcR z (by omega) (by omega);have Hz:=Lib.hid hz;have Hb:=Lib.hid hbs;clear hz hsz hbs;go_wp2_with(first|(with_reducible refine Fn.go λ g=>?_)|((with_reducible apply Za);(·exact rfl);(·exact ii)));refine(SN _).mono ?_;rintro e w2 ⟨mb,rfl,hg2,hn2⟩;have B2:=Bt.join (w:=gr wr ‹Gr›) ii hg2 hn2;clear hg2 hn2 B;dsimp only;go_wp2_with(at_builtin;(with_reducible apply ZI);(·exact rfl);(·exact rfl);(·exact ii);(·exact ii);(·exact ii);(·exact rfl);(·decide);(·omega);intro gA capA wA bA;(try dsimp only at bA));have B9:Bt W (λ _=>none) _ (wA.setCell ⟨bb,2,none⟩ (.slice (some ⟨gA,0,none⟩) (k+1) capA)):=ii;generalize wA.setCell ⟨bb,2,none⟩ (.slice (some ⟨gA,0,none⟩) (k+1) capA)=wz at B9 ⊢;have B10:Bt W (λ _=>none) (star (XJ (XI s secs bs))::_) wz:=B9.drop.front (i:=6) rfl;have B11:Bt W (λ _=>none) (star (XJ (XI s secs bs)++[KC mb z []])::[_,_,_,_,_]) wz:=⟨(B10.perm (List.Perm.swap ..)).t.mono λ _ s=>s.join⟩
    have e1:XI s secs (bs++[mb])=XI s secs bs++[(mb,z,[])]:=by rw [UI,Hb.out,Hz.out];rfl
    refine⟨⟨k+1,bs++[mb],some ⟨gA,0,none⟩,capA,hlt,by go_num,by simp [Hb.out],?_⟩,by simp [intOf];omega⟩;rw [e1,ja,qG];exact B11.perm (List.perm_append_singleton _ _).symm
   ·obtain rfl:s.len=k:=by omega
    go_wp2_with fail;go_ret2;have e1:s.len=(XI s secs bs).length:=by rw [qi,hbs]
    have e2:(List.replicate s.len 0).length=s.len:=List.length_replicate ..;refine⟨bb,g2,cap',bs,rfl,?_⟩;have B9:Bt W (λ _=>none) [_,_,_,_,_] wr:=(B.perm (List.Perm.swap ..)).drop
    have B10:Bt W (λ _=>none) [Zd bb #[.slice (some ⟨g2,0,none⟩) s.len cap',.int .i64 secs,.slice ad2 (XI s secs bs).length cap2,.slice (some ⟨w1.heap.size,0,none⟩) (List.replicate s.len 0).length s.len] 136,Zw 138 1 ad2 (XI s secs bs).length cap2 (QC (XI s secs bs)),Zw 3 1 (some ⟨w1.heap.size,0,none⟩) (List.replicate s.len 0).length s.len (Y0 (List.replicate s.len 0)),star (XJ (XI s secs bs)),X9 (s.at_ g2 cap')] wr:=by
     rw [e2,<- e1];exact(((B9.front (i:=4) rfl).front (i:=3) rfl).front (i:=4) rfl).front (i:=3) rfl
    exact((((B10.app [_,_,_,_]).head λ h sh=>⟨Zbw (s:=s.at_ g2 cap') hgood hbs,_,_,_,_,sh⟩).perm (List.Perm.swap ..)).app [_,_]).new1
def plN(p:Pt):List (Nat × Nat):=if p.two then [(p.ag.toNat,p.aa.toNat),(p.bg.toNat,p.ba.toNat)]else [(p.ag.toNat,p.aa.toNat)]
def takeN(s:ZO)(z:Int)(l:List (Nat × Nat))(g u:Nat):Prop:=∃ x∈l,g=x.1/\x.2<=u/\(u:Int)<x.2+Xu s x.1 z
theorem J9.pl{s:ZO}{secs:Int}(h:ZT s secs){p:Pt}(o:J9 s secs p):∃ z:Nat,p.size=z/\(1<=z/\z<=4)/\plC p=((plN p).map λ x=>[.int .i64 (x.1:Nat),.int .i64 (x.2:Nat)])/\(∀ x∈plN p,x.1<s.len/\(x.2:Int)+Xu s x.1 z<=Q8 s secs x.1)/\p.isNone=false/\(plN p).length=if p.two then 2 else 1:=by
 haveI:Ky s secs:=⟨h⟩
 obtain⟨g,a,z,e1,e2,e3,h1,h2,h3⟩:=o.in_ h
 have hn:p.isNone=false:=by
  cases e:p.isNone with
  |false=>rfl
  |true =>
   have:=(Pt.isNone_iff p).1 e;rw [this]at e3;have:(0:Int)=z:=e3;omega
 have ha:=h3;simp only [XG,Bool.and_eq_true,decide_eq_true_eq]at ha;refine⟨z,e3,h2,?_,?_,hn,by unfold plN;split<;>rfl⟩
 ·unfold plC plN;cases h2:p.two with
  |false=>simp [e1,e2]
  |true =>
   obtain⟨⟨b0,b1⟩,_,c0,c1⟩:=Xg (o.b h2).1;simp [e1,e2,Int.toNat_of_nonneg b0,Int.toNat_of_nonneg c0]
 ·intro x hx;unfold plN at hx;cases h2:p.two with
  |false =>
   simp [h2]at hx;subst hx;rw [e1,e2];simp only [Int.toNat_natCast];omega
  |true =>
   obtain⟨⟨b0,b1⟩,_,c0,c1⟩:=Xg (o.b h2).1;have hb:=(o.b h2).1;rw [e3]at hb;simp only [XG,Bool.and_eq_true,decide_eq_true_eq]at hb;simp [h2]at hx;rcases hx with rfl|rfl
   ·rw [e1,e2];simp only [Int.toNat_natCast];omega
   ·simp only [Int.toNat_of_nonneg b0,Int.toNat_of_nonneg c0];omega
theorem zS.take{s:ZO}{secs:Int}{ms:List MD}{es:List Nat}(ok:zS s secs ms es)(i at_ n:Nat):zS s secs (XD ms i at_ n) es:=by
 refine⟨ok.good,by rw [zB];exact ok.len,ok.elen,λ g m' hg=>?_,λ g e' m' he hg=>?_⟩<;>unfold XD at hg<;>split at hg
 ·rename_i m hm
  by_cases e:i=g
  ·subst e;rw [List.getElem?_set_self (List.getElem?_eq_some_iff.1 hm).1]at hg;cases hg;exact ok.size i m hm
  ·rw [List.getElem?_set_ne e]at hg;exact ok.size g m' hg
 ·exact ok.size g m' hg
 ·rename_i m hm
  by_cases e:i=g
  ·subst e;rw [List.getElem?_set_self (List.getElem?_eq_some_iff.1 hm).1]at hg;cases hg;exact ok.ends i e' m he hm
  ·rw [List.getElem?_set_ne e]at hg;exact ok.ends g e' m' he hg
 ·exact ok.ends g e' m' he hg
theorem ZeY(ms:List MD)(i at_ n:Nat):QC (XD ms i at_ n)=QC ms:=by
 unfold XD QC;split
 ·rename_i m hm;refine List.ext_getElem? λ j=>?_
  simp only [List.getElem?_map]
  by_cases hi:i=j
  ·subst hi;rw [List.getElem?_set_self (List.getElem?_eq_some_iff.1 hm).1,hm];rfl
  ·rw [List.getElem?_set_ne hi]
 ·rfl
theorem Bt.row1{W w:World}{h:Hl}{l:List SP}{bk n z:Nat}{cs:Array Value}{t:TypeId}{L:List (List Value)}(B:Bt W h (Zd bk cs t::l) w)(h1:cs.toList=L.flatten)(h2:∀ x∈L,x.length=z)(h3:L.length=n):Bt W h (YC t z bk n L::l) w :=
 B.head λ _ s=>YC.of_blk s h1 h2 h3 (by rw [<-Array.length_toList,h1,Yy h2,h3])
theorem ZbR(p:Pt)(h:p.isNone=false)(W:World):Calls Tryz.prog 185 #[.agg p.cs] W λ e w'=>∃ b,e=.returned (.slice (some ⟨b,0,none⟩) (if p.two then 2 else 1) (if p.two then 2 else 1))/\zP (YC 45 2 b (if p.two then 2 else 1) (plC p)) W w':=by
 have HN:∀ w,Fn 169 #[.agg p.cs] w (.bool false):=λ w=>by have e:=Y4 p w;rw [h]at e;exact e
 haveI:=Bt.zero W;cases h2:p.two
 ·go_in
  go_wp2_with(first|(with_reducible refine Fn.go λ g=>?_)|((with_reducible apply Za);(·exact rfl);(·exact ii)));go_ret;exact⟨_,rfl,Bt.new1 (Bt.row1 ii (by simp [plC,h2]) (by simp [plC,h2]) (by simp [plC,h2]))⟩
 ·go_in
  go_wp2_with(first|(with_reducible refine Fn.go λ g=>?_)|((with_reducible apply Za);(·exact rfl);(·exact ii)));go_ret;exact⟨_,rfl,Bt.new1 (Bt.row1 ii (by simp [plC,h2]) (by simp [plC,h2]) (by simp [plC,h2]))⟩
theorem set_self{α:Type _}{l:List α}{i:Nat}{a:α}(h:l[i]?=some a):l.set i a=l:=List.ext_getElem? λ j=>by
 by_cases e:i=j
 ·subst e;rw [List.getElem?_set_self (List.getElem?_eq_some_iff.1 h).1,h]
 ·rw [List.getElem?_set_ne e]
theorem ZbK{s:ZO}{z:Int}{pl:List (Nat × Nat)}{k:Nat}{x:Nat × Nat}(h:pl[k]?=some x)(g u:Nat):takeN s z (pl.take (k+1)) g u↔takeN s z (pl.take k) g u\/(g=x.1/\x.2<=u/\(u:Int)<x.2+Xu s x.1 z):=by
 unfold takeN;rw [List.take_add_one,h];simp only [Option.toList,List.mem_append,List.mem_singleton];constructor
 ·rintro⟨y,hy|rfl,a⟩
  ·exact .inl ⟨y,hy,a⟩
  ·exact .inr a
 ·rintro(⟨y,hy,a⟩|a)
  ·exact⟨y,.inl hy,a⟩
  ·exact⟨x,.inr rfl,a⟩
theorem Zk4{ms:List MD}{i at_ n:Nat}{m:MD}(hm:ms[i]?=some m)(h:Y3 m.2.1 m.2.2)(hn:1<=n){r:Run}(hr:m.2.2[Z3 m.2.2 at_]?=some r)(hlt:r.1<at_+n):∃ u,YX ms i u/\at_<=u/\u<at_+n:=by
 obtain⟨hl,e⟩:=List.getElem?_eq_some_iff.1 hr;have h1:=List.findIdx_getElem (w:=hl);have h2:m.2.2[List.findIdx (λ r:Run=>decide (at_<r.1+r.2)) m.2.2]=r:=e;rw [h2]at h1;have h1:=of_decide_eq_true h1;have h3:=h.pos r (List.mem_of_getElem? hr);exact⟨max r.1 at_,⟨m,hm,r,List.mem_of_getElem? hr,by omega,by omega⟩,by omega,by omega⟩
theorem ZhG{s:ZO}{secs:Int}(h:ZT s secs){p:Pt}(o:J9 s secs p){pl:List (Nat × Nat)}(e:plN p=pl){z:Nat}(ez:p.size=z){k:Nat}{x:Nat × Nat}(hx:pl[k]?=some x){n:Nat}(hn:Xu s x.1 z=n){ms msk:List MD}
  (hu:∀ g u,YX msk g u↔YX ms g u\/takeN s z (pl.take k) g u) (hh:∃ u,YX msk x.1 u/\x.2<=u/\u<x.2+n):∃ g u,YX ms g u/\takeN s p.size (plN p) g u:=by
 obtain⟨u,h1,h2,h3⟩:=hh;rcases(hu _ _).1 h1 with h4|⟨y,hy,h5,h6,h7⟩
 ·exact⟨x.1,u,h4,x,by rw [e];exact List.mem_of_getElem? hx,rfl,h2,by rw [ez,hn];omega⟩
 ·exfalso
  haveI:Ky s secs:=⟨h⟩
  obtain⟨⟨a0,_⟩,_,a1,_⟩:=Xg o.a;rw [<-e]at hx hy;unfold plN at hx hy;cases h8:p.two with
  |false =>
   rw [h8]at hx hy
   match k,hx with
   |0,_=>simp at hy
   |k+1,hx=>simp at hx
  |true =>
   obtain⟨hb,hc⟩:=o.b h8;obtain⟨⟨b0,_⟩,_,b1,_⟩:=Xg hb;rw [h8]at hx hy
   match k,hx with
   |0,_=>simp at hy
   |1,hx =>
    simp at hx hy;subst hx hy;dsimp only at *
    rw [Int.toNat_of_nonneg b0,<- ez]at hn;rw [Int.toNat_of_nonneg a0,<- ez]at h7;omega
   |k+2,hx=>simp at hx
def Zkv(bb:Nat)(s:ZO)(secs:Int)(ms:List MD)(es:List Nat)(p:Pt)(v:Value)(q:SP):Prop :=
 (v=.int .i64 0/\∃ ms',(∀ g u,YX ms' g u↔YX ms g u\/takeN s p.size (plN p) g u)/\q=star [X9 s,ZV bb s secs ms' es]) \/
 (v=.int .i64 13/\(∃ g u,YX ms g u/\takeN s p.size (plN p) g u)/\∃ ms',Alike ms ms'/\q=star [X9 s,ZV bb s secs ms' es])
theorem Zir(bb:Nat)(s:ZO)(secs:Int)(ms:List MD)(es:List Nat)(p:Pt)(po:J9 s secs p) :
  Tq 133 #[.pointer (some ⟨bb,0,none⟩),.agg p.cs,.func (.func 134) #[] #[]] (star [X9 s,ZV bb s secs ms es]) (Zkv bb s secs ms es p):=by
 refine Tq.of λ W h B0=>?_
 have B1:=B0.flat;simp only [List.append_nil]at B1;haveI:YK bb s secs ms es W:=⟨ii⟩
 have CA:=λ(w:World)(_:YK bb s secs ms es w)=>qc bb s secs ms es w
 obtain⟨ok,mad,mcap,ead,ecap,B⟩:=X5 (B1.perm (List.Perm.swap ..));clear B0 B1;have hgood:=ok.good;haveI:Ky s secs:=⟨hgood⟩
 obtain⟨z,hz,hz4,hpl,hin,hnn,hpn⟩:=po.pl hgood;have PA:=ZbR p hnn;rw [<-hpn,hpl]at PA;obtain⟨pl,hpl'⟩:∃ pl,plN p=pl:=⟨_,rfl⟩
 rw [hpl']at PA hin hpn;have hp2:pl.length<=2:=by rw [hpn];split<;>omega
 clear hpl hpn;have HPL:=Lib.hid hpl';clear hpl';have HP:∀ w,[GM s w]->Fn 184 #[.agg #[.slice s.ad s.len s.cap,.int .i64 secs],.agg #[.int .i64 p.ag,.int .i64 p.aa,.int .i64 p.bg,.int .i64 p.ba,.bool p.two,.int .i64 p.size,.int .i64 p.level,.int .i64 p.birth,.int .u64 p.sum.a,.int .u64 p.sum.b,.int .u64 p.sum.c,.int .u64 p.sum.d]] w (.bool true):=λ w _=>je s secs w p po
 haveI:GM s W:=B.gm_in (k:=4) rfl;have HZ:=Lib.hid hz;clear hz
 go_in
 go_wp2_with fail;refine plZ (.q [0,1,2,3,4,5,6,7,8,9,10] .d) ?_;simp only [Zk.run,pick,gZ,gS,gA,gN]
 (repeat go_big_quiet_step (exact qZ));refine nZ ?_
 rintro w1 hw1;have B1:Bt W h _ w1:=Ze hw1;go_wp2_with fail;haveI:YK bb s secs ms es w1:=by obtain⟨g,rfl⟩:=hw1;infer_instance
 refine(CA _ ii).mono ?_;rintro e w2 ⟨wb,wms,rfl,hal,hg,hn⟩;have B2:=B1.join hg hn;clear B B1 hg hn hw1 CA;dsimp only;go_wp2_with((with_reducible apply Za);(·exact rfl);(·exact ii));refine(PA _).mono ?_;rintro e w3 ⟨pb,rfl,hg,hn⟩;have B3:=Bt.join (w:=w2) ii hg hn;dsimp only;go_wp2_with fail;clear B2 hg hn PA;have HAL:=Lib.hid hal;clear hal
 go_loopw [27] (λ i wr=>∃(k:Nat)(msk:List MD),k<=pl.length/\i=.int .i64 k/\zS s secs msk es/\(∀ g u,YX msk g u↔YX ms g u\/takeN s z (pl.take k) g u)/\Bt W h [ZV bb s secs msk es,YC 45 2 pb pl.length (pl.map λ x=>[.int .i64 (x.1:Nat),.int .i64 (x.2:Nat)]),ZV wb s secs wms es,Zd W.heap.size p.cs 50,X9 s] wr) (λ i _=>pl.length-(intOf i).toNat)
 case atStart=>exact⟨0,ms,Nat.zero_le _,rfl,ok,by simp [takeN],J0 ok ((((B3.front (i:=6) rfl).front (i:=6) rfl).front (i:=6) rfl).front (i:=6) rfl)⟩
 case round =>
  clear B3;obtain⟨k,msk,hk,rfl,okk,hu,B⟩:=hrel
  by_cases hlt:k<pl.length
  ·obtain⟨_,mad,mcap,ead,ecap,B1⟩:=X5 B;clear B;obtain⟨x,hx⟩:∃ x,pl[k]?=some x:=⟨_,List.getElem?_eq_getElem hlt⟩
   obtain⟨x1,x2⟩:=hin x (List.mem_of_getElem? hx);have hxl:x.1<msk.length:=by rw [okk.len];exact x1
   obtain⟨m,hm⟩:∃ m,msk[x.1]?=some m:=⟨_,List.getElem?_eq_getElem hxl⟩
   haveI:=B1.map_in (k:=3) rfl hm;haveI:GM s wr:=B1.gm_in (k:=7) rfl;obtain⟨n,hn⟩:∃ n:Nat,Xu s x.1 z=n:=Int.eq_ofNat_of_zero_le (by have:=QZ hgood x1 hz4;omega)
   have hn1:1<=n/\n<=65536:=by
    have h1:=QZ hgood x1 hz4;have h2:=zK s secs x.1 z;omega
   have HT:∀ w,[GM s w]->Fn 186 #[.agg #[.slice s.ad s.len s.cap,.int .i64 secs],.int .i64 x.1,.int .i64 p.size] w (.int .i64 n):=λ w _=>by rw [<-hn,HZ.out];infer_instance
   have hmz:x.2+n<=m.2.1:=by have:=okk.size x.1 m hm;omega
   obtain⟨h0,pr,hw⟩:=B1.mem (i:=4) rfl;obtain⟨ob,oo,e1,hob,hoc⟩:=(pr.rd (c:=pl.length) (n:=pl.length) (by simp) wr).cells k [.int .i64 (x.1:Nat),.int .i64 (x.2:Nat)] (by simp [hx]);cases e1;rw [Nat.zero_add]at hoc;haveI:ZJ pb (k*2) #[.int .i64 (x.1:Nat),.int .i64 (x.2:Nat)] 2 wr:=⟨rfl,hob,λ j v e=>hoc j v e⟩
   obtain⟨mb,mo,em,hmb,hmc⟩:=(B1.rd_in (k:=1) rfl).cells x.1 [.pointer (some ⟨m.1,0,none⟩)] (by simp [QC,hm]);cases em;have m0:=hmc 0 _ rfl;rw [Nat.add_zero,Nat.mul_one]at m0;have Hx:=Lib.hid hx;have Hm:=Lib.hid hm;have Hn:=Lib.hid hn;clear hx hm hn hmc hoc;go_wp2_with((with_reducible apply Za);(·exact rfl);(·exact ii));refine plZ (.q [0,1,2,3,4,5,6,7,8,9,10,11,12,13,14,15,16,17,18,19] (.x [20] (.q [21] .d))) ?_;simp only [Zk.run,pick,gZ,gS,gA,gN]
   (repeat go_big_quiet_step (exact qZ));refine nZ ?_
   refine Z4 ?_;intro w3 B3;clear m0 hob hmb;go_wp2_with fail;have so:Y3 m.2.1 m.2.2:=(YF m.1 m.2.1 m.2.2 wr).1
   by_cases hf:∀ r,m.2.2[Z3 m.2.2 x.2]?=some r->x.2+n<=r.1
   ·refine(Bt.call ((Vj m.1 m.2.1 m.2.2 x.2 n hn1.1 hmz hf).at_ (J7 Hm.out))).mono ?_;rintro e4 w4 ⟨v,q,rfl,⟨q0,⟨rfl,rfl⟩,rfl⟩,B4⟩
    have hset:(XJ msk).set x.1 (KC m.1 m.2.1 (QK (yP m.2.2 x.2 n)))=XJ (XD msk x.1 x.2 n):=by
     unfold XD;rw [Hm.out];exact Za8 msk x.1 (m.1,m.2.1,QK (yP m.2.2 x.2 n))
    dsimp only at B4 ⊢;rw [hset]at B4;clear hset B1 B3;go_wp2_with fail;dsimp only [Nx]
    (repeat go_big_quiet_step (exact qZ));refine nZ ?_
    rintro w5 hw5;have B5:Bt W h (_::_::_::_::_::_::_::_::_::[]) w5:=Ze hw5;clear hw5 B4;have B6:Bt W h _ w5:=B5.drop;clear B5;go_wp2_with fail;refine⟨⟨k+1,XD msk x.1 x.2 n,hlt,by go_num,okk.take ..,λ g u=>?_,?_⟩,by simp [intOf];omega⟩
    ·rw [UU Hm.out so hn1.1 hmz hf,hu,ZbK Hx.out];have:=Hn.out;constructor
     ·rintro((a|a)|⟨a,b,c⟩)
      ·exact .inl a
      ·exact .inr (.inl a)
      ·exact .inr (.inr ⟨a,b,by omega⟩)
     ·rintro(a|a|⟨a,b,c⟩)
      ·exact .inl (.inl a)
      ·exact .inl (.inr a)
      ·exact .inr ⟨a,b,by omega⟩
    ·have e1:msk.length=(XD msk x.1 x.2 n).length:=(zB ..).symm;rw [e1,<- ZeY msk x.1 x.2 n]at B6;exact J0 (okk.take ..) B6
   ·obtain⟨r,hr,hlt'⟩:∃ r,m.2.2[Z3 m.2.2 x.2]?=some r/\r.1<x.2+n:=by
     by_cases he:∃ r,m.2.2[Z3 m.2.2 x.2]?=some r/\r.1<x.2+n
     ·exact he
     ·exact absurd (λ r hr=>Nat.le_of_not_lt λ hc=>he ⟨r,hr,hc⟩) hf
    have HIT:=Lib.hid (ZhG hgood po HPL.out HZ.out Hx.out Hn.out hu (Zk4 Hm.out so hn1.1 hr hlt'));refine(Bt.call ((ZhC m.1 m.2.1 m.2.2 x.2 n hn1.1 hmz r hr hlt').at_ (J7 Hm.out))).mono ?_;rintro e4 w4 ⟨v,q,rfl,⟨q0,⟨rfl,rfl⟩,rfl⟩,B4⟩;have hset:(XJ msk).set x.1 (KC m.1 m.2.1 m.2.2)=XJ msk:=set_self (J7 Hm.out);dsimp only at B4 ⊢;clear B1 B3;go_wp2_with fail;dsimp only [Nx]
    (repeat go_big_quiet_step (exact qZ));refine nZ ?_
    rintro w5 hw5;have B5:Bt W h (_::_::_::_::_::_::_::_::_::[]) w5:=Ze hw5;clear hw5 B4;have B6:Bt W h (_::_::_::_::_::_::_::_::[]) w5:=B5.drop;have F2:Bt W h (_::_::_::_::_::_::_::_::[]) w5:=B6.front (i:=5) rfl;obtain⟨ok2,mad2,mcap2,ead2,ecap2,F3⟩:=X5 F2;clear B5 B6 F2;go_wp2_with fail;go_ret
    (first|apply Zv|apply Zu)
    exact⟨.inr ⟨rfl,HIT.out,wms,HAL.out,rfl⟩,Bt.book_end (i:=5) rfl ok2 ii⟩
  ·obtain rfl:pl.length=k:=by omega
   go_wp2_with fail;go_ret
   (first|apply Zv|apply Zu)
   rw [List.take_length]at hu;refine⟨.inl ⟨rfl,msk,by rw [HZ.out,HPL.out];exact hu,rfl⟩,?_⟩;have B1:Bt W h (_::_::_::_::_::[]) wr:=B.front (i:=4) rfl;exact(B1.app [_,_]).fin_at 0 rfl
theorem Zim(bb:Nat)(s:ZO)(secs:Int)(ms:List MD)(es:List Nat)(p:Pt)(po:J9 s secs p) :
  Tq 74 #[.pointer (some ⟨bb,0,none⟩),.agg p.cs] (star [X9 s,ZV bb s secs ms es]) (Zkv bb s secs ms es p):=by
 refine Tq.of λ W h B=>?_
 go_in
 go_wp2_with((with_reducible apply Za);(·exact rfl);(·exact ii));refine(Bt.call (Zir bb s secs ms es p po)).mono ?_;rintro e w1 ⟨v,q,rfl,R,B1⟩;dsimp only at B1 ⊢;go_wp2_with fail;go_ret
 (first|apply Zv|apply Zu)
 exact⟨R,Bt.fin⟩
class ToL(cs:Array Value)(l:outParam (List Value)):Prop where
 e:cs=l.toArray
instance Zr6(l:List Value):ToL l.toArray l:=⟨rfl⟩
abbrev ptL(p:Pt):List Value:=[.int .i64 p.ag,.int .i64 p.aa,.int .i64 p.bg,.int .i64 p.ba,.bool p.two,.int .i64 p.size,.int .i64 p.level,.int .i64 p.birth,.int .u64 p.sum.a,.int .u64 p.sum.b,.int .u64 p.sum.c,.int .u64 p.sum.d]
abbrev ndL(n:Nd):List Value:=[.int .i64 n.size,.int .i64 n.root.ag,.int .i64 n.root.aa,.int .i64 n.root.bg,.int .i64 n.root.ba,.bool n.root.two,.int .i64 n.root.size,.int .i64 n.root.level,.int .i64 n.root.birth,.int .u64 n.root.sum.a,.int .u64 n.root.sum.b,.int .u64 n.root.sum.c,.int .u64 n.root.sum.d]
instance ZrU(p:Pt):ToL p.cs (ptL p):=⟨rfl⟩
instance Zra(n:Nd):ToL n.cs (ndL n):=⟨rfl⟩
class Zgh(l:List Value)(n:outParam Nat):Prop where
 e:l.length=n
instance ZqA:Zgh [] 0:=⟨rfl⟩
instance ZpK(a:Value)(l:List Value)(n:Nat)[k:Zgh l n]:Zgh (a::l) (n+1):=⟨by rw [List.length_cons,k.e]⟩
class Zft(l:List Value)(o z:Nat)(r:outParam (List Value)):Prop where
 e:(l.drop o).take z=r/\o+z<=l.length
instance ZpU(l:List Value):Zft l 0 0 []:=⟨rfl,by simp⟩
instance ZqI(a:Value)(l r:List Value)(z:Nat)[k:Zft l 0 z r]:Zft (a::l) 0 (z+1) (a::r):=⟨by have:=k.e.1;simpa using this,by have:=k.e.2;simp at this ⊢;omega⟩
instance Zp6(a:Value)(l r:List Value)(o z:Nat)[k:Zft l o z r]:Zft (a::l) (o+1) z r:=⟨by have:=k.e.1;simpa using this,by have:=k.e.2;simp;omega⟩
class Zd8(l:List Value)(o:Nat)(c:List Value)(r:outParam (List Value)):Prop where
 e:l.take o++c++l.drop (o+c.length)=r/\o+c.length<=l.length
instance ZpH(l:List Value):Zd8 l 0 [] l:=⟨by simp,by simp⟩
instance ZpV(a b:Value)(l c r:List Value)[k:Zd8 l 0 c r]:Zd8 (a::l) 0 (b::c) (b::r):=⟨by have:=k.e.1;simp at this;simp [this],by have:=k.e.2;simp at this ⊢;omega⟩
instance ZqE(a:Value)(l c r:List Value)(o:Nat)[k:Zd8 l o c r]:Zd8 (a::l) (o+1) c (a::r):=⟨by have:=k.e.1;rw [<-this];simp [Nat.add_right_comm],by have:=k.e.2;simp;omega⟩
class StZ(t:TypeId)(z:outParam Nat):Prop where
 e:(Tryz.prog.info? t).map (·.size)=some z
instance(priority:=low) ZqK(l:List Value)(n:Nat)[k:Zgh l n]:jb l.toArray n:=⟨by simpa using k.e⟩
instance(priority:=low) Zrq(W:World)(b o z:Nat)(X:Array Value)(l r:List Value)[c:Zh W b X][t:ToL X l][s:Zft l o z r]:ZJ b o r.toArray z W:=by
 have e:=t.e;subst e;obtain⟨e1,e2⟩:=s.e;refine⟨by rw [<-e1];simp;omega,Zh.old (cs:=l.toArray) c,λ j v h=>?_⟩;rw [YO W b (o+j) l.toArray];rw [<-e1]at h;simp only [List.getElem?_toArray]at h ⊢;rw [List.getElem?_take]at h;split at h
 ·simpa using h
 ·cases h
instance(priority:=low) Zrk(t:TypeId)(W:World)(b o z:Nat)(X cs:Array Value)(l c r:List Value)[k:StZ t z][d:Zh W b X][tx:ToL X l][tc:ToL cs c][n:Zgh c z][o1:Ur c][s:Zd8 l o c r]:KA t b o cs W (W.setRow b r.toArray):=by
 have e:=tx.e;subst e;have e:=tc.e;subst e;obtain⟨tt,hb⟩:=d.get;obtain⟨e1,e2⟩:=s.e;have hs:=run_storeCells_at Tryz.prog b o tt c 0 l.toArray W hb (by simpa using e2) o1.h;refine Jb k.e n.e (hs.trans ?_);rw [<-e1];rfl
instance:StZ 31 4:=⟨by kernel_rfl⟩
instance:StZ 54 14:=⟨by kernel_rfl⟩
instance:StZ 75 9:=⟨by kernel_rfl⟩
instance:StZ 78 24:=⟨by kernel_rfl⟩
instance:StZ 125 15:=⟨by kernel_rfl⟩
instance:StZ 92 2:=⟨by kernel_rfl⟩
instance:StZ 52 13:=⟨by kernel_rfl⟩
instance:StZ 50 12:=⟨by kernel_rfl⟩
theorem ZaA{ty:TypeId}{z:Nat}(w:World)(b:Nat)(cs:Array Value)(hs:ZJ b 0 cs z w){d:TypeDesc}(hu:Tryz.prog.underlying ty=some d)(hd:Zek d=true)(hi:(Tryz.prog.info? ty).map (·.size)=some z):(loadVar ty ⟨b,0,none⟩).run Tryz.prog w=.ok (.agg cs) w:=by
 cases d<;>first|exact Ys (P:=Tryz.prog) w b 0 z cs ty _ hu rfl hi|cases hd
theorem zz{fn:Func}{p:Tmp}{ty:TypeId}{z:Nat}(h:fn.results=#[.cell p ty])(tmps:Array Value)(w:World)(b:Nat)(cs:Array Value)(hp:tmps.getD p undef=.pointer (some ⟨b,0,none⟩))(hs:ZJ b 0 cs z w){d:TypeDesc}
  (hu:Tryz.prog.underlying ty=some d) (hd:Zek d=true) (hi:(Tryz.prog.info? ty).map (·.size)=some z):(results fn tmps).run Tryz.prog w=.ok (.agg cs) w:=by
 have hp':tmps[p]?.getD undef=.pointer (some ⟨b,0,none⟩):=by simpa using hp
 have hl:=ZaA w b cs hs hu hd hi;simp [results,h,hp',asAddr,hl,Sem.run_bind,Result.andThen]
structure Sn where
 id:Int
 txg:Int
 dir:Nd
def Sn.cs(x:Sn):List Value:=[.int .i64 x.id,.int .i64 x.txg,.int .i64 x.dir.size,.int .i64 x.dir.root.ag,.int .i64 x.dir.root.aa,.int .i64 x.dir.root.bg,.int .i64 x.dir.root.ba,.bool x.dir.root.two,.int .i64 x.dir.root.size,.int .i64 x.dir.root.level,.int .i64 x.dir.root.birth,.int .u64 x.dir.root.sum.a,.int .u64 x.dir.root.sum.b,.int .u64 x.dir.root.sum.c,.int .u64 x.dir.root.sum.d]
def Ye(l:List Sn):List (List Value):=l.map Sn.cs
def YU(n:Nat):List (List Value):=List.replicate n [.int .i64 0,.int .i64 0]
theorem ZdO(l:List Sn):∀ x∈Ye l,x.length=15:=by
 intro x hx;obtain⟨_,_,rfl⟩:=List.mem_map.1 hx;rfl
theorem ZdT(l:List Sn):∀ x∈Ye l,∀ v∈x,v.oneCell'=true:=by
 intro x hx v hv;obtain⟨r,_,rfl⟩:=List.mem_map.1 hx;simp only [Sn.cs,List.mem_cons,List.not_mem_nil,or_false]at hv;rcases hv with rfl|rfl|rfl|rfl|rfl|rfl|rfl|rfl|rfl|rfl|rfl|rfl|rfl|rfl|rfl<;>rfl
theorem Ziu(l:List Sn):(Ye l).length=l.length:=by simp [Ye]
theorem ZiU(n:Nat):(YU n).length=n:=by simp [YU]
theorem Zdx(n:Nat):∀ x∈YU n,x.length=2:=by intro x hx;rw [(List.mem_replicate.1 hx).2];rfl
theorem Zda(n:Nat):∀ x∈YU n,∀ v∈x,v.oneCell'=true:=by
 intro x hx v hv;rw [(List.mem_replicate.1 hx).2]at hv;simp at hv;rw [hv];rfl
abbrev mC(n:Nd)(ss st:Value):Array Value:=#[.int .i64 n.size,.int .i64 n.root.ag,.int .i64 n.root.aa,.int .i64 n.root.bg,.int .i64 n.root.ba,.bool n.root.two,.int .i64 n.root.size,.int .i64 n.root.level,.int .i64 n.root.birth,.int .u64 n.root.sum.a,.int .u64 n.root.sum.b,.int .u64 n.root.sum.c,.int .u64 n.root.sum.d,ss,.int .i64 0,.int .i64 0,.int .i64 0,.int .i64 0,.int .i64 0,.int .i64 0,.int .i64 0,.int .i64 0,.int .i64 0,st]
set_option maxRecDepth 512 in
instance ZlQ(n m:Int)(W:World):Fn 149 #[.int .i64 n,.int .i64 m] W (.bool (decide (0<=n)&&decide (n<=m))):=by
 refine⟨?_⟩
 by_cases h:0<=n
 ·have h':decide (0<=n)=true:=by simp [h]
  go_in
  go_wp2_with fail;go_ret;exact ZM.mk (by simp [h]) grown
 ·have h':decide (0<=n)=false:=by simp [h]
  go_in
  go_wp2_with fail;go_ret;exact ZM.mk (by simp [h]) grown
theorem ZjP{α β:Type}(f:α->β)(p:β->Bool)(l:List α):KJ p (l.map f)=KJ (λ x=>p (f x)) l:=by
 have h1:(l.map f).any p=l.any (λ x=>p (f x)):=by simp [List.any_map,Function.comp_def]
 have h2:(l.map f).findIdx p=l.findIdx (λ x=>p (f x)):=by
  induction l with
  |nil=>rfl
  |cons a l ih=>simp only [List.map_cons,List.findIdx_cons];rw [ih (by simp [List.any_map,Function.comp_def])]
 unfold KJ;rw [h1,h2]
section
variable(live:Nd)(ad:Option Addr)(cap:Nat)(l:List Sn)(st:Value)(W:World)[R:Zy 15 ad l.length cap (Ye l) W]
include R
def YW(id:Int)(x:Sn):Bool:=x.id==id
theorem jU(id:Int)(hl:l.length<=4):Fn 103 #[.agg (mC live (.slice ad l.length cap) st),.int .i64 id] W (.tuple #[.int .i64 (Kb (KJ (YW id) l) 0),.bool (l.any (YW id))]):=by
 refine⟨?_⟩
 have hi:∀(b:Nat)(w:World),Yc b w->w.cell? ⟨b,0,none⟩=some (.int .i64 id)->Zy 15 ad l.length cap (Ye l) w->Fn 166 #[.slice ad l.length cap,.func (.func 167) #[] #[.pointer (some ⟨b,0,none⟩)]] w (.int .i64 (KJ (YW id) l)):=λ b w ob hc hr=>by
  haveI:=ZmL ad l.length cap (Ye l) w (by omega) 167 (by kernel_rfl) #[.pointer (some ⟨b,0,none⟩)] (λ x=>intOf (x.headD undef)==id) (λ x hx g=>by
   obtain⟨y,hy,rfl⟩:=List.mem_map.1 hx;have hc':(gr w g).cell? ⟨b,0,none⟩=some (.int .i64 id):=(Z7 ..).trans hc;have hcs:y.cs.toArray=#[.int .i64 y.id,.int .i64 y.txg,.int .i64 y.dir.size,.int .i64 y.dir.root.ag,.int .i64 y.dir.root.aa,.int .i64 y.dir.root.bg,.int .i64 y.dir.root.ba,.bool y.dir.root.two,.int .i64 y.dir.root.size,.int .i64 y.dir.root.level,.int .i64 y.dir.root.birth,.int .u64 y.dir.root.sum.a,.int .u64 y.dir.root.sum.b,.int .u64 y.dir.root.sum.c,.int .u64 y.dir.root.sum.d]:=rfl;rw [hcs];haveI:Yc b (gr w g):=ii;generalize gr w g=w2 at *
   go_in
   go_wp2_with fail;go_ret
   exact ZM.mk (by simp [Sn.cs,intOf]) grown) (ZdO l)
  have e:KJ (λ x:List Value=>intOf (x.headD undef)==id) (Ye l)=KJ (YW id) l:=by
   exact ZjP _ _ _
  rw [<-e];infer_instance
 go_in
 go_wp2_with fail;refine(hi _ _ ii (by simp [go_sem]) ii).1.mono ?_;rintro e w1 ⟨rfl,hb⟩;obtain⟨g,rfl⟩:=Zf hb;clear hb;dsimp only;obtain⟨i,hix⟩:∃ i,KJ (YW id) l=i:=⟨_,rfl⟩
 have hge:=ji (YW id) l;rw [hix]at hge ⊢;have Hge:=Lib.hid hge;have Hix:=Lib.hid hix;clear hge hix hi;go_wp2_with fail;go_ret2;exact ZM.mk (by rw [Hix.out,<- Hge.out];rfl) grown
set_option maxRecDepth 512 in
theorem kY(n:Nat)(ad2:Option Addr)(cap2:Nat)[R2:Zy 2 ad2 n cap2 (YU n) W](hl:l.length<=4)(hn:n<=100)(h0:ad=none->cap=0)(h2:ad2=none->cap2=0) :
  Calls Tryz.prog 94 #[.agg (mC live (.slice ad l.length cap) (.slice ad2 n cap2))] W λ e w'=>∃ ad' cap' ad2' cap2',e=.returned (.agg (mC live (.slice ad' l.length cap') (.slice ad2' n cap2')))/\zP (star [Zw 125 15 ad' l.length cap' (Ye l),Zw 92 2 ad2' n cap2' (YU n)]) W w':=by
 have CN:∀ w,Zy 15 ad l.length cap (Ye l) w->_:=λ w (_:Zy 15 ad l.length cap (Ye l) w)=>Zpu ad l.length cap (Ye l) w (by omega) (ZdO l) (ZdT l) h0
 have CR:∀ w,Zy 2 ad2 n cap2 (YU n) w->_:=λ w (_:Zy 2 ad2 n cap2 (YU n) w)=>Zmx ad2 n cap2 (YU n) w (by omega) (Zdx n) (Zda n) h2
 have J1:∀ {l':List SP} {w1 w2:World} {ad':Option Addr} {cap':Nat},Bt W (λ _=>none) l' w1->ZC 125 15 ad' l.length cap' (Ye l).flatten w2 w1->True/\Bt W (λ _=>none) (Zw 125 15 ad' l.length cap' (Ye l)::l') w2:=λ {l' w1 w2 ad' cap'} b o=>⟨trivial,b.join o.grw (by
  obtain⟨hp,a,r,q⟩:=o.slP (Ziu l) (ZdO _)
  exact⟨hp,r,a,q⟩)⟩
 have J2:∀ {l':List SP} {w1 w2:World} {ad':Option Addr} {cap':Nat},Bt W (λ _=>none) l' w1->ZC 92 2 ad' n cap' (YU n).flatten w2 w1->True/\Bt W (λ _=>none) (Zw 92 2 ad' n cap' (YU n)::l') w2:=λ {l' w1 w2 ad' cap'} b o=>⟨trivial,b.join o.grw (by
  obtain⟨hp,a,r,q⟩:=o.slP (ZiU n) (Zdx _)
  exact⟨hp,r,a,q⟩)⟩
 haveI:=Bt.zero W
 go_in
 go_wp2_with fail;refine plZ (.q [0,1,3,4] (.g 2 (.q [6] (.g 5 (.x [7] (.q [8] (.x [9] .d))))))) ?_;simp only [Zk.run,pick,gZ,gS,gA,gN]
 (repeat go_big_quiet_step (exact qZ));refine nZ ?_
 rintro w1 hw1;have B1:Bt W (λ _=>none) _ w1:=Ze hw1;haveI:Zy 15 ad l.length cap (Ye l) w1:=by obtain⟨g,rfl⟩:=hw1;infer_instance
 haveI:Zy 2 ad2 n cap2 (YU n) w1:=by obtain⟨g,rfl⟩:=hw1;infer_instance
 go_wp2_with fail;refine(CN _ ii).mono ?_;rintro e w2 ⟨ad',cap',rfl,o,_⟩;obtain⟨_,B2⟩:=J1 B1 o;haveI:Zy 2 ad2 n cap2 (YU n) w2:=by obtain⟨g,rfl⟩:=o.grw;infer_instance
 dsimp only;go_wp2_with fail;dsimp only [Nx];refine⟨yJ hw1 o.grw,?_⟩;clear o hw1
 (repeat go_big_quiet_step (exact qZ));refine nZ ?_
 rintro w3 hw3;have B3:Bt W (λ _=>none) _ w3:=Ze hw3;haveI:Zy 2 ad2 n cap2 (YU n) w3:=by obtain⟨g,rfl⟩:=hw3;infer_instance
 go_wp2_with fail;refine(CR _ ii).mono ?_;rintro e w4 ⟨ad2',cap2',rfl,o,_⟩;obtain⟨_,B4⟩:=J2 B3 o;dsimp only;go_wp2_with fail;dsimp only [Nx];refine⟨yJ hw3 o.grw,?_⟩;clear o hw3;clear B1 B2 B3;refine Z4 ?_;intro w5 B5;clear B4;go_wp2_with fail;dsimp only [Nx]
 (repeat go_big_quiet_step (exact qZ));refine nZ ?_
 refine Z4 ?_;intro w6 B6;clear B5;go_wp2_with fail;dsimp only [Nx];rintro w7 hw7;have B7:Bt W (λ _=>none) [_,_,Zd (W.heap.size+1) _ _,Zd W.heap.size (mC live (.slice ad' l.length cap') (.slice ad2' n cap2')) _] w7:=Ze hw7;clear hw7 B6;go_wp2_with(first|((with_reducible apply Za);(·exact rfl);(·exact ii))|((with_reducible apply Zb);(·exact rfl);(·exact rfl);(·exact ii)))
 (refine bodyPost_ret (zz (z:=24) rfl _ _ _ _ rfl inferInstance Tryz.underlying78 rfl (by kernel_rfl)) rfl ?_)
 have B8:Bt W (λ _=>none) (_::_::_) (w7.setRow (W.heap.size+1) (mC live (.slice ad' l.length cap') (.slice ad2' n cap2'))):=ii;exact⟨ad',cap',ad2',cap2',rfl,((B8.perm (List.Perm.swap ..)).app [_,_]).new1⟩
end
end Go.Proofs.YtlfjdjndhcmliaaGreatDoor
