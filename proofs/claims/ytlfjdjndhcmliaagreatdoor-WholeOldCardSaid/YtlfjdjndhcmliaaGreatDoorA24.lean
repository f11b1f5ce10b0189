/- WholeOld, part 24. -/
import Derived.Test.YtlfjdjndhcmliaaGreatDoorA23
import Derived.Test.YtlfjdjndhcmliaaGreatDoorA22
import Derived.Test.YtlfjdjndhcmliaaGreatDoorA14
set_option maxRecDepth 100000
set_option maxHeartbeats 4000000
set_option linter.all false
namespace Go.Proofs.YtlfjdjndhcmliaaGreatDoor
open Go.RowKit Go.Sort
theorem Bt.more{W w:World}{h:Hl}{l:List SP}{p:SP}(B:Bt W h l w)(hp:p λ _=>none):Bt W h (l++[p]) w:=⟨B.t.mono λ _ s=>s.snoc hp⟩
set_option maxRecDepth 512 in
instance ZdJ(id:Nat)(W:World):Fn 214 #[.int .i64 id] W (.bool (decide (id<32))):=by
 refine⟨?_⟩
 by_cases h:id<32
 ·have h':(id:Int)<32:=by omega
  rw [decide_eq_true h]
  go_in
  go_wp2_with fail;go_ret;exact ZM.mk rfl grown
 ·have h':¬ (id:Int)<32:=by omega
  rw [decide_eq_false h]
  go_in
  go_wp2_with fail;go_ret;exact ZM.mk rfl grown
theorem ZcT:∀ {n:Nat},n<=3->cA n<=85
 |0,_=>by decide
 |1,_=>by decide
 |2,_=>by decide
 |3,_=>by decide
 |n+4,h=>by omega
theorem Dr.node{K:KS}{n:Nd}{D:Nat->Option Nd}(dr:Dr K n D):∃(z:Nat)(r:Pt),n=⟨z,r⟩:=by
 obtain⟨g,o,_⟩:=dr;obtain⟨z,hz⟩:=Int.eq_ofNat_of_zero_le o.sz.1;exact⟨z,n.root,by cases n;cases hz;rfl⟩
theorem Zem{K:KS}{n:Nd}{D:Nat->Option Nd}{g:Nat->UInt8}(o:Ob K n g)(hg:∀ id j:Nat,id<32->j<128->g (id*128+j)=ZH (entry D id) j)(hf:∀ id m,D id=some m->Yv m)(id:Nat)(hid:id<32)(s:ByteArray)(hs:s=txt g (id*128) (min 128 (n.size.toNat-id*128))):s++Zx (128-s.size)=qH D id:=by
 have hsz:s.size=min 128 (n.size.toNat-id*128):=by rw [hs,YA]
 refine Qv (n:=128) (by rw [Zs,Zr];omega) ?_ λ j hj=>?_
 ·unfold qH;cases h:D id with
  |none=>exact Zr 128
  |some m=>haveI:=hf id m h;exact m.bytes_size
 ·have e:ZH (qH D id) j=ZH (entry D id) j:=by
   unfold qH entry;cases D id with
   |none=>rw [YM,ZA (Nat.zero_le _)]
   |some m=>rfl
  rw [e,<- hg id j hid hj,Yp,YM];split
  ·rename_i h;rw [hs,Ja (by omega)]
  ·have:=o.sz;exact(o.z _ (by omega)).symm
section
variable{st:Nat}{S:KS->Nat->SP}(T:VT st S)
include T
theorem ZcI(K:KS)(c:Nat){n:Nd}{g:Nat->UInt8}(o:Ob K n g):Tq 128 #[Jv st,.agg n.cs] (S K c) λ v q=>∃(X:List Pt)(ad:Option Addr)(cap:Nat),(v=.tuple #[.slice ad X.length cap,.int .i64 0]/\q=star [S K c,Zw 50 12 ad X.length cap (Y8 X)])/\Zmu K (zN n.size).toNat n.root g X:=by
 have A:=ZkF T (zN n.size).toNat K c n.root g none 0 0 [] o.tr (by have:=Ks n.size;omega) (by have:=ZcT (n:=(zN n.size).toNat) (by have:=Ks n.size;omega);omega);simp only [Nat.zero_add,List.nil_append]at A;clear o;refine Tq.of λ W h B0=>?_
 have B:=B0.more (Zw.nil 50 12 _);clear B0;simp only [List.cons_append,List.nil_append]at B
 go_in
 go_wp2_with((with_reducible apply Za);(·exact rfl);(·exact ii));refine(Bt.call2 A).mono ?_;rintro e w5 ⟨v,q,rfl,⟨Y,ad2,cap2,⟨rfl,rfl⟩,hY⟩,B5⟩;have B6:=Bt.unrot B5;clear B5;simp only [List.cons_append,List.nil_append]at B6;have HY:=Lib.hid hY;clear hY;dsimp only;go_wp2_with fail;go_ret2;exact⟨_,_,rfl,⟨Y,ad2,cap2,⟨rfl,rfl⟩,HY.out⟩,B6.drop.t⟩
theorem kn(K:KS)(c:Nat){n:Nd}{D:Nat->Option Nd}(dr:Dr K n D)(id:Nat)(hid:id<32):Tq 157 #[Jv st,.agg n.cs,.int .i64 id] (S K c) λ v q=>v=.tuple #[.agg ((D id).getD Nd.none).cs,.bool (D id).isSome,.int .i64 0]/\q=S K c:=by
 obtain⟨g,o,hg,hf⟩:=dr;have R:=V7 T K c o (id*128) 128 (by omega) (by omega);rw [show (((id*128:Nat)):Int)=(id:Int)*128 by omega]at R;obtain⟨s,hs⟩:∃ s,s=txt g (id*128) (min 128 (n.size.toNat-id*128)):=⟨_,rfl⟩
 have hsz:s.size<=128:=by rw [hs,YA];omega
 have hpad:s++Zx (128-s.size)=qH D id :=
  Zem o hg hf id hid s hs
 rw [<-hs]at R;have HR:=λ z hz W=>yM (128-s.size) (by omega) z hz W
 have RN:∀ W,Fn 142 #[.string (s++Zx (128-s.size))] W (.tuple #[.agg ((D id).getD Nd.none).cs,.bool (D id).isSome,.int .i64 0]):=λ W=>by
  rw [hpad];unfold qH;cases h:D id with
  |none=>exact yh W
  |some m=>haveI:=hf id m h;exact qm m W
 clear hs hpad o hg hf;obtain⟨nd,hnd⟩:∃ nd,(D id).getD Nd.none=nd:=⟨_,rfl⟩
 obtain⟨b,hb⟩:∃ b,(D id).isSome=b:=⟨_,rfl⟩
 rw [hnd,hb]at RN ⊢;clear hnd hb;refine Tq.of λ W h B=>?_
 go_in
 go_wp2_with((with_reducible apply Za);(·exact rfl);(·exact ii));refine(Bt.call R).mono ?_;rintro e w1 ⟨v,q,rfl,⟨rfl,rfl⟩,B1⟩;dsimp only at B1 ⊢;go_wp2_with fail;refine @Fn.go _ _ _ _ _ (HR _ (by omega) _) λ g1=>?_
 dsimp only;go_wp2_with(with_reducible refine Fn.go λ g=>?_);refine bodyPost_ret (Jp rfl _ _ _ _ rfl ii) rfl ?_
 (first|apply Zv|apply Zu)
 exact⟨⟨rfl,rfl⟩,Bt.fin⟩
theorem Zaj(K:KS)(c:Nat){n:Nd}{D:Nat->Option Nd}(dr:Dr K n D)(id:Nat)(hid:id<32):Tq 155 #[Jv st,.agg n.cs,.int .i64 id] (S K c) λ v q=>v=.tuple #[.agg ((D id).getD Nd.none).cs,.bool (D id).isSome,.int .i64 0]/\q=S K c:=by
 have R:=kn T K c dr id hid;have M:=λ W=>ZdJ id W
 rw [decide_eq_true hid]at M;obtain⟨nd,hnd⟩:∃ nd,(D id).getD Nd.none=nd:=⟨_,rfl⟩
 obtain⟨b,hb⟩:∃ b,(D id).isSome=b:=⟨_,rfl⟩
 rw [hnd,hb]at R ⊢;clear hnd hb dr;refine Tq.of λ W h B=>?_
 go_in
 go_wp2_with(first|(with_reducible refine Fn.go λ g=>?_)|((with_reducible apply Za);(·exact rfl);(·exact ii)));refine(Bt.call R).mono ?_;rintro e w1 ⟨v,q,rfl,⟨rfl,rfl⟩,B1⟩;dsimp only at B1 ⊢;go_wp2_with fail;refine bodyPost_ret (Jp rfl _ _ _ _ rfl ii) rfl ?_
 (first|apply Zv|apply Zu)
 exact⟨⟨rfl,rfl⟩,Bt.fin⟩
theorem Zi6(K:KS)(c:Nat){n m:Nd}{D:Nat->Option Nd}(dr:Dr K n D)(id:Nat)(hid:id<32)(hm:Yv m)(hc:70000<=c):Tq 160 #[Jv st,.agg n.cs,.int .i64 id,.agg m.cs] (S K c) (RN S K (c-70000) λ n' K'=>Dr K' n' (Yw D id (some m))):=by
 obtain⟨z,r,rfl⟩:=dr.node;obtain⟨g,o,hg,hf⟩:=dr;have hbs:=m.bytes_size;have P:=qP T K c o (id*128) m.bytes (by omega) (by omega) hc;rw [show (((id*128:Nat)):Int)=(id:Int)*128 by omega]at P;have M:=λ W=>ZdJ id W
 rw [decide_eq_true hid]at M;have NB:=λ W=>qY m W
 rw [m.err_fit]at NB;have fin:∀ n' K',Ob K' n' (jD g (id*128) m.bytes)->Dr K' n' (Yw D id (some m)):=λ n' K' o'=>Dr.put (n:=n') hg hf o' hbs (λ _=>rfl) (λ _ _=>rfl) (λ x e=>by cases e;exact hm)
 have Fin:=Lib.hid fin;clear fin hg hf o hbs;refine Tq.of λ W h B=>?_
 go_in
 go_wp2_with(first|(with_reducible refine Fn.go λ g=>?_)|((with_reducible apply Za);(·exact rfl);(·exact ii)));refine(Bt.call P).mono ?_;rintro e w1 ⟨v,q,rfl,hR,B1⟩;dsimp only at B1 ⊢;rcases hR with ⟨e,he,rfl,rfl⟩|⟨p1,K1,rfl,rfl,hK1,hz1,o1⟩
 ·go_wp2_with fail
  (refine bodyPost_ret (YR rfl _ _ _ _ rfl ii) rfl ?_)
  (first|apply Zv|apply Zu)
  exact⟨.inl ⟨e,he,rfl,rfl⟩,Bt.fin⟩
 ·have O1:=Lib.hid (Fin.out _ _ o1);clear o1 hz1;go_wp2_with fail
  (refine bodyPost_ret (YR rfl _ _ _ _ rfl ii) rfl ?_)
  (first|apply Zv|apply Zu)
  exact⟨.inr ⟨p1,K1,rfl,rfl,hK1,O1.out⟩,Bt.fin⟩
theorem Zhv(K:KS)(c:Nat){n:Nd}{D:Nat->Option Nd}(dr:Dr K n D)(id:Nat)(hid:id<32)(hc:70000<=c):Tq 101 #[Jv st,.agg n.cs,.int .i64 id] (S K c) λ v q=>(D id=none/\v=.tuple #[.agg Nd.none.cs,.int .i64 7]/\q=S K c)\/((D id).isSome=true/\RN S K (c-70000) (λ n' K'=>Dr K' n' (Yw D id none)) v q):=by
 have G:=Zaj T K c dr id hid;obtain⟨z,r,rfl⟩:=dr.node;obtain⟨g,o,hg,hf⟩:=dr;have P:=qP T K c o (id*128) (Zx 128) (by rw [Zr];omega) (by rw [Zr];omega) hc;rw [show (((id*128:Nat)):Int)=(id:Int)*128 by omega]at P;have fin:∀ n' K',Ob K' n' (jD g (id*128) (Zx 128))->Dr K' n' (Yw D id none):=λ n' K' o'=>Dr.put (n:=n') hg hf o' (Zr 128) (λ _=>rfl) (λ j _=>by rw [YM,ZA (Nat.zero_le _)]) (λ x e=>by cases e)
 have Fin:=Lib.hid fin;have HR:∀ W,Fn 138 #[.string ⟨#[0]⟩,.int .i64 128] W (.string (Zx 128)):=λ W=>yM 128 (by omega) 128 rfl W
 obtain⟨nd,hnd⟩:∃ nd,(D id).getD Nd.none=nd:=⟨_,rfl⟩
 rw [hnd]at G;clear fin hg hf o hnd;refine Tq.of λ W h B=>?_
 cases hD:D id with
 |none =>
  rw [hD]at G
  go_in
  go_wp2_with((with_reducible apply Za);(·exact rfl);(·exact ii));refine(Bt.call G).mono ?_;rintro e w1 ⟨v,q,rfl,⟨rfl,rfl⟩,B1⟩;dsimp only [Option.isSome]at B1 ⊢;go_wp2_with(with_reducible apply Zj)
  (refine bodyPost_ret (YR rfl _ _ _ _ rfl ii) rfl ?_)
  (first|apply Zv|apply Zu)
  exact⟨.inl ⟨by first|rfl|trivial,rfl,rfl⟩,Bt.fin⟩
 |some m =>
  rw [hD]at G
  go_in
  go_wp2_with((with_reducible apply Za);(·exact rfl);(·exact ii));refine(Bt.call G).mono ?_;rintro e w1 ⟨v,q,rfl,⟨rfl,rfl⟩,B1⟩;dsimp only [Option.isSome]at B1 ⊢;go_wp2_with fail;refine plZ (.q [0,1,2,3,4] (.x [5] (.q [6,7] (.x [8] (.q [9] .d))))) ?_;simp only [Zk.run,pick,gZ,gS,gA,gN]
  (try go_frame)
  (repeat(first|((with_reducible apply Zm);(·exact rfl);go_frame)|((with_reducible apply Zl);(·exact rfl);(·exact rfl);go_frame)|((with_reducible apply Zp);(·exact rfl);go_frame)|((with_reducible apply Zc);(·exact rfl);(·rintro _ ⟨gq,rfl⟩;exact ii);go_frame)|go_big_quiet_step (exact qZ)));refine nZ ?_
  rintro w2 hw2;have B2:=Ze hw2;clear hw2;go_wp2_with fail;refine(Bt.call P).mono ?_;rintro e w3 ⟨v,q,rfl,hR,B3⟩;dsimp only at B3 ⊢;rcases hR with ⟨e,he,rfl,rfl⟩|⟨p1,K1,rfl,rfl,hK1,hz1,o1⟩
  ·go_wp2_with fail;dsimp only [Nx]
   (repeat go_big_quiet_step (exact qZ));refine nZ ?_
   refine Z4 ?_;intro w2 B2;go_wp2_with fail;dsimp only [Nx];(repeat go_big_quiet_step (exact qZ));refine nZ ?_;(first|(rintro w3 hw3;have B3:=Ze hw3;clear hw3)|rintro g3);go_wp2_with fail
   (refine bodyPost_ret (YR rfl _ _ _ _ rfl ii) rfl ?_)
   (first|apply Zv|apply Zu)
   exact⟨.inr ⟨rfl,.inl ⟨e,he,rfl,rfl⟩⟩,Bt.fin⟩
  ·have O1:=Lib.hid (Fin.out _ _ o1);clear o1 hz1;go_wp2_with fail;dsimp only [Nx]
   (repeat go_big_quiet_step (exact qZ));refine nZ ?_
   refine Z4 ?_;intro w2 B2;go_wp2_with fail;dsimp only [Nx];(repeat go_big_quiet_step (exact qZ));refine nZ ?_;(first|(rintro w3 hw3;have B3:=Ze hw3;clear hw3)|rintro g3);go_wp2_with fail
   (refine bodyPost_ret (YR rfl _ _ _ _ rfl ii) rfl ?_)
   (first|apply Zv|apply Zu)
   exact⟨.inr ⟨rfl,.inr ⟨p1,K1,rfl,rfl,hK1,O1.out⟩⟩,Bt.fin⟩
end
def XC(D:Nat->Option Nd)(k:Nat):List Nat:=(List.range k).filter λ id=>(D id).isSome
theorem kX(D:Nat->Option Nd)(k:Nat):XC D (k+1)=XC D k++if (D k).isSome then [k]else []:=by
 unfold XC;rw [List.range_succ,List.filter_append]
 congr 1
 rw [List.filter_cons];cases (D k).isSome<;>rfl
theorem Vk(D:Nat->Option Nd)(k:Nat):(XC D k).length<=k:=by
 have:=List.length_filter_le (λ id=>(D id).isSome) (List.range k);rw [List.length_range]at this;exact this
theorem kw{D:Nat->Option Nd}{k:Nat}:∀ {m:Nat},k<=m->(∀ id,k<=id->id<m->D id=none)->XC D m=XC D k
 |0,h,_=>by obtain rfl:k=0:=(by omega);rfl
 |m+1,h,hd=>by
  rcases Nat.lt_or_ge m k with h1|h1
  ·obtain rfl:k=m+1:=by omega
   rfl
  ·rw [kX,kw h1 (λ id a b=>hd id a (by omega)),hd m h1 (by omega)];simp
theorem Dr.beyond{K:KS}{n:Nd}{D:Nat->Option Nd}(dr:Dr K n D)(id:Nat)(hid:id<32)(h:n.size<=(id*128:Nat)):D id=Option.none:=by
 obtain⟨g,o,hg,hf⟩:=dr;cases hD:D id with
 |none=>rfl
 |some m =>
  exfalso
  haveI:=hf id m hD
  have h0:Qd m.bytes (0:Nat)=true:=(U9 m.bytes 0).2 λ j _=>by
   rcases Nat.lt_or_ge j 128 with hj|hj
   ·have e:=hg id j hid hj;rw [o.z _ (by omega)]at e;unfold entry at e;rw [hD]at e;exact e.symm
   ·exact ZA (by rw [m.bytes_size];exact hj)
  have:=m.fields
  simp_all
def KG(l:List Nat):List (List Value):=l.map λ k:Nat=>[.int .i64 (k:Int)]
section
variable{st:Nat}{S:KS->Nat->SP}(T:VT st S)
include T
theorem ZaS(K:KS)(c:Nat){n:Nd}{D:Nat->Option Nd}(dr:Dr K n D):Tq 93 #[Jv st,.agg n.cs] (S K c) λ v q=>∃(ad:Option Addr)(cap:Nat),v=.tuple #[.slice ad (XC D 32).length cap,.int .i64 0]/\q=star [S K c,Zw 3 1 ad (XC D 32).length cap (KG (XC D 32))]:=by
 have R:=λ id hid=>kn T K c dr id hid
 have hbe:=λ id hid=>dr.beyond id hid
 obtain⟨z,r,rfl⟩:=dr.node;have hz:z<=16384:=by obtain⟨g,o,_⟩:=dr;have:((z:Int))<=16384:=o.sz.2;omega
 obtain⟨lim,hlim⟩:∃ lim,lim=min 32 ((z+127)/128):=⟨_,rfl⟩
 have hl1:yA 32 (((z:Int)+128-1)/128)=lim:=by unfold yA;split<;>omega
 have hl2:yA 32 (((z:Int)+127)/128)=lim:=by unfold yA;split<;>omega
 have hl32:lim<=32:=by omega
 have hend:XC D 32=XC D lim:=kw hl32 λ id h1 h2=>hbe id h2 (by show (z:Int)<=_;omega)
 rw [hend];clear hbe hend dr hlim;refine Tq.of λ W h B0=>?_
 have B:=B0.more (Zw.nil 3 1 _);clear B0;simp only [List.cons_append,List.nil_append]at B
 go_in
 go_wp2_with fail
 go_loopw [6,17] (λ ov i wr=>∃(k:Nat)(ad:Option Addr)(cap:Nat),k<=lim/\i=.int .i64 k/\ov=.slice ad (XC D k).length cap/\Bt W h [Zd W.heap.size (Nd.mk z r).cs 52,S K c,Zw 3 1 ad (XC D k).length cap (KG (XC D k))] wr)
  (λ _ i _=>lim-(intOf i).toNat)
 case atStart=>exact⟨0,none,0,Nat.zero_le _,rfl,rfl,ii⟩
 case round =>
  clear B;obtain⟨k,ad,cap,hk,rfl,rfl,B⟩:=hrel;have hlen:=Vk D k
  by_cases hlt:k<lim
  ·have R1:=R k (by omega);have hsu:=kX D k;obtain⟨nd,hnd⟩:∃ nd,(D k).getD Nd.none=nd:=⟨_,rfl⟩
   rw [hnd]at R1;cases hb:(D k).isSome
   all_goals
    rw [hb]at R1 hsu;have Hsu:=Lib.hid hsu;clear hb hsu hnd R;go_wp2_with((with_reducible apply Za);(·exact rfl);(·exact ii));refine(Bt.call R1).mono ?_;rintro e w1 ⟨v,q,rfl,⟨rfl,rfl⟩,B1⟩;dsimp only at B1 ⊢;go_wp2_with(at_builtin;(with_reducible apply ZI);(·exact rfl);(·exact rfl);(·exact ii);(·exact ii);(·exact ii);(·exact rfl);(·decide);(·omega);intro gA capA wA bA;(try dsimp only at bA))
   ·have e:=Hsu.out;simp only [Bool.false_eq_true,if_false,List.append_nil]at e;exact⟨⟨k+1,ad,cap,hlt,by go_num,by rw [e],by rw [e];exact Bt.drop ii⟩,by simp [intOf];omega⟩
   ·have e:=Hsu.out;simp only [if_true]at e;have e3:(XC D (k+1)).length=(XC D k).length+1:=by rw [e];simp
    have e4:KG (XC D (k+1))=KG (XC D k)++[[.int .i64 (k:Int)]]:=by rw [e];simp [KG]
    exact⟨⟨k+1,some ⟨gA,0,none⟩,capA,hlt,by go_num,by rw [e3],by rw [e3,e4];exact bA.drop.drop⟩,by simp [intOf];omega⟩
  ·obtain rfl:lim=k:=by omega
   clear R;go_wp2_with fail;go_ret2
   first|exact⟨_,_,rfl,⟨ad,cap,rfl,rfl⟩,B.drop.t⟩|exact⟨_,rfl,_,⟨ad,cap,rfl,rfl⟩,B.drop.t⟩
end
theorem ZhS{ts e:TypeId}{z by_:Nat}[k:Jl ts e z by_]{a:Addr}{n cap c:Nat}(hn:n<=cap)(W:World)(ty:TypeId):(Builtin.append_ #[ts,ts] ty #[.slice (some a) n cap,.slice none 0 c]).run Tryz.prog W=.ok (.slice (some a) n cap) W:=by
 obtain⟨i,zr,hi,hz0,hz1,hz2,hz3⟩:=Jl.el (ts:=ts) (e:=e) (z:=z) (by_:=by_);have ksl:=Jl.sl (ts:=ts) (e:=e) (z:=z) (by_:=by_);simp [Builtin.append_,run_underlying ksl,sizeOf,typeInfo,hi,hn,Builtin.lenOf,run_firstCells_none,storeCells]
theorem ZbO{ts e:TypeId}{z by_:Nat}[k:Jl ts e z by_]{W W1:World}{g:Nat}{ad2:Option Addr}{n cap m c:Nat}{xs:List Value}{ys:List (List Value)}(ho:ZC e z (some ⟨g,0,none⟩) n cap xs W W1)(hr:Zy z ad2 m c ys W)(hz:∀ y∈ys,y.length=z)(h1:∀ y∈ys,∀ u∈y,u.oneCell'=true)(hn:n+m<=1000000)(hb:by_<=1000) :
  ∃ g' cap' W',(∀ ty,(Builtin.append_ #[ts,ts] ty #[.slice (some ⟨g,0,none⟩) n cap,.slice ad2 m c]).run Tryz.prog W=.ok (.slice (some ⟨g',0,none⟩) (n+m) cap') W')/\ZC e z (some ⟨g',0,none⟩) (n+m) cap' (xs++ys.flatten) W' W1:=by
 cases ad2 with
 |none =>
  obtain rfl:ys=[]:=by
   cases ys with
   |nil=>rfl
   |cons y l=>obtain⟨b,o,e,_⟩:=hr.cells 0 y rfl;cases e
  obtain rfl:m=0:=hr.len.symm
  have hc:n<=cap:=by
   rcases ho.own.2 with ⟨h,_⟩|⟨g',cap',cur,e1,hb,hg,hle,_⟩
   ·cases h
   ·cases e1;exact hle
  exact⟨g,cap,W,λ ty=>ZhS (z:=z) (by_:=by_) hc W ty,by simpa using ho⟩
 |some a2 =>
  obtain⟨ad',cap',W',hrn,ho',hne⟩:=kx (ts:=ts) ho hr hz h1 hn hb;obtain⟨g',rfl⟩:=ho'.some_ (.inl (hne (by simp)));exact⟨g',cap',W',hrn,ho'⟩
section
variable{ops:Array Oper}{rest:List Oper}{Q:Exit->Act->World->Prop}{a:Act}{w:World}{d:Option Tmp}{pos:String}{aft:Array Edge}
theorem JG{ts e:TypeId}{z by_:Nat}[k:Jl ts e z by_]{x y:Operand}{W1:World}{g:Nat}{ad2:Option Addr}{n cap m c:Nat}{xs:List Value}{ys:List (List Value)}(hx:a.eval x=.slice (some ⟨g,0,none⟩) n cap)(hy:a.eval y=.slice ad2 m c)
  (ho:ZC e z (some ⟨g,0,none⟩) n cap xs w W1) (hr:Zy z ad2 m c ys w) (hz:∀ y∈ys,y.length=z) (h1:∀ y∈ys,∀ u∈y,u.oneCell'=true) (hn:n+m<=1000000) (hb:by_<=1000)
  (h:∀ g' cap' gw,ZC e z (some ⟨g',0,none⟩) (n+m) cap' (xs++ys.flatten) (gr W1 gw) W1->wpList Tryz.prog ops Q rest (a.put d (.slice (some ⟨g',0,none⟩) (n+m) cap')) (gr W1 gw)) :
  wpList Tryz.prog ops Q ({ dst:=d,op:=.call { callee:=.builtin .append,args:=#[x,y],argTypes:=#[ts,ts] },type:=ts,pos:=pos,after:=aft,guard:=none }::rest) a w:=by
 obtain⟨g',cap',W',hrn,ho'⟩:=ZbO (ts:=ts) ho hr hz h1 hn hb;refine ZP rfl _ _ _ _ rfl _ _ hx hy (hrn _) ?_;obtain⟨gw,rfl⟩:=ho'.grw;exact h g' cap' gw ho'
end
theorem ZcH(b:Nat)(a0 a1 a2:Option Addr)(n0 n1 n2 c0 c1 c2:Nat)(x0 x1 x2:List (List Value))(W:World)[Yc b W](v0:W.cell? ⟨b,0,none⟩=some (.slice a0 n0 c0))(v1:W.cell? ⟨b,1,none⟩=some (.slice a1 n1 c1))(v2:W.cell? ⟨b,2,none⟩=some (.slice a2 n2 c2))
  [r0:Zy 2 a0 n0 c0 x0 W] [r1:Zy 2 a1 n1 c1 x1 W] [r2:Zy 2 a2 n2 c2 x2 W] (z0:∀ y∈x0,y.length=2) (z1:∀ y∈x1,y.length=2) (z2:∀ y∈x2,y.length=2) (o0:∀ y∈x0,∀ u∈y,u.oneCell'=true) (o1:∀ y∈x1,∀ u∈y,u.oneCell'=true) (o2:∀ y∈x2,∀ u∈y,u.oneCell'=true)
  (h1:1<=n0+n1+n2) (h2:n0+n1+n2<=500000) :
  Calls Tryz.prog 190 #[.slice (some ⟨b,0,none⟩) 3 3] W λ e w'=>∃ g cap,e=.returned (.slice (some ⟨g,0,none⟩) (n0+n1+n2) cap)/\ZC 207 2 (some ⟨g,0,none⟩) (n0+n1+n2) cap (x0++x1++x2).flatten w' W:=by
 have G:=ZiZ (n0+n1+n2) h1 (by omega);rw [show (((n0+n1+n2:Nat)):Int)=(n0:Int)+n1+n2 by omega]at G
 go_in
 go_wp2_with fail;refine wp_loop_rounds 4 ?_
 iterate 3 (rw [rounds_succ];go_wp2_with fail)
 rw [rounds_succ];go_wp2_with fail;refine(G _).mono ?_;rintro e V1 ⟨g,cap,rfl,o⟩;haveI:Zy 2 a0 n0 c0 x0 V1:=by obtain⟨g,rfl⟩:=o.grw;infer_instance
 haveI:Zy 2 a1 n1 c1 x1 V1:=by obtain⟨g,rfl⟩:=o.grw;infer_instance
 haveI:Zy 2 a2 n2 c2 x2 V1:=by obtain⟨g,rfl⟩:=o.grw;infer_instance
 have VV:∀ gw:Gr,(gr W gw).cell? ⟨b,0,none⟩=some (.slice a0 n0 c0)/\(gr W gw).cell? ⟨b,1,none⟩=some (.slice a1 n1 c1)/\(gr W gw).cell? ⟨b,2,none⟩=some (.slice a2 n2 c2):=λ gw=>⟨by rw [Z7];exact v0,by rw [Z7];exact v1,by rw [Z7];exact v2⟩
 have R0:∀ gw:Gr,Zy 2 a0 n0 c0 x0 (gr W gw):=λ gw=>ii
 have R1:∀ gw:Gr,Zy 2 a1 n1 c1 x1 (gr W gw):=λ gw=>ii
 have R2:∀ gw:Gr,Zy 2 a2 n2 c2 x2 (gr W gw):=λ gw=>ii
 obtain⟨gw,rfl⟩:=o.grw;dsimp only;go_wp2_with fail;refine wp_loop_rounds 4 ?_;rw [rounds_succ];go_wp2_with(at_builtin;refine JG rfl rfl o (R0 _) z0 o0 (by omega) (by omega) ?_;intro g0 cap0 gw0 O0;simp only [Nat.zero_add,List.nil_append]at O0);rw [rounds_succ];go_wp2_with(at_builtin;refine JG rfl rfl O0 (R1 _) z1 o1 (by omega) (by omega) ?_;intro g1 cap1 gw1 O1);rw [rounds_succ];go_wp2_with(at_builtin;refine JG rfl rfl O1 (R2 _) z2 o2 (by omega) (by omega) ?_;intro g2 cap2 gw2 O2);rw [rounds_succ];go_wp2_with fail;go_ret;refine⟨_,_,rfl,?_⟩;rw [List.flatten_append,List.flatten_append];exact O2
theorem Zbo:∀ {L:List (List Value)} {z i j:Nat} {x:List Value} (v:Value),(∀ y∈L,y.length=z)->L[i]?=some x->j<z->L.flatten.set (i*z+j) v=(L.set i (x.set j v)).flatten
 | [],_,_,_,_,_,_,h,_=>by simp at h
 |a::L,z,0,j,x,v,hz,h,hj=>by
  obtain rfl:a=x:=by simpa using h
  rw [List.flatten_cons,List.set_cons_zero,List.flatten_cons,Nat.zero_mul,Nat.zero_add,List.set_append_left _ _ (by rw [hz a (by simp)];exact hj)]
 |a::L,z,i+1,j,x,v,hz,h,hj=>by
  have ha:=hz a (by simp)
  rw [List.flatten_cons,List.set_cons_succ,List.flatten_cons,List.set_append_right _ _ (by rw [ha,Nat.add_mul];omega),ha,show (i+1)*z+j-z=i*z+j by rw [Nat.add_mul];omega,
   Zbo v (λ y hy=>hz y (by simp [hy])) (by simpa using h) hj]
theorem YC.setc{t:TypeId}{z g cap:Nat}{L:List (List Value)}{h:Hl}(r:YC t z g cap L h){i j:Nat}{x:List Value}(hx:L[i]?=some x)(hj:j<z)(v:Value)(W:World)[hw:Has W h]:Zg W h (YC t z g cap (L.set i (x.set j v))) (W.setCell ⟨g,i*z+j,none⟩ v):=by
 obtain⟨cur,b1,b2,b3,b4,b5⟩:=r;have hi:i<L.length:=(List.getElem?_eq_some_iff.1 hx).1;refine(Zd.set (b:=g) (cs:=cur) (t:=t) b1 (i*z+j) v W).mono λ h' hp=>⟨_,hp,by simp [b2],?_,λ y hy=>?_,by simpa using b5⟩
 ·rw [Array.toList_setIfInBounds,List.length_set,List.take_set,b3];exact Zbo v b4 hx hj
 ·rcases List.mem_or_eq_of_mem_set hy with h1|rfl
  ·exact b4 y h1
  ·rw [List.length_set];exact b4 x (List.mem_of_getElem? hx)
theorem Zw.setc{t:TypeId}{z g n cap:Nat}{L:List (List Value)}{h:Hl}(p:Zw t z (some ⟨g,0,none⟩) n cap L h){i j:Nat}{x:List Value}(hx:L[i]?=some x)(hj:j<z)(v:Value)(W:World)[hw:Has W h]:Zg W h (Zw t z (some ⟨g,0,none⟩) n cap (L.set i (x.set j v))) (W.setCell ⟨g,i*z+j,none⟩ v):=by
 obtain⟨p1,p2,p3⟩:=p;rcases p3 with ⟨h1,_⟩|⟨g',e,hm,r⟩
 ·cases h1
 ·cases e;refine(r.setc hx hj v W).mono λ h' q=>⟨by rw [List.length_set];exact p1,λ y hy=>?_,.inr ⟨g,rfl,hm,q⟩⟩
  rcases List.mem_or_eq_of_mem_set hy with h1|rfl
  ·exact p2 y h1
  ·rw [List.length_set];exact p2 x (List.mem_of_getElem? hx)
theorem Bt.gr_of{W w:World}{l:List SP}(B:Bt W (λ _=>none) l w):∃ g,w=gr W g:=(Zg.new (λ _=>rfl) B.t).1
section
variable(mb z:Nat)(l:List Run)(W:World)[D:YD mb z l W]
include D
set_option maxRecDepth 512 in
theorem Zg8:Fn 304 #[.pointer (some ⟨mb,0,none⟩)] W (.int .i64 z):=by
 refine⟨?_⟩;obtain⟨ok,hz,ho,ad,k,cap,c0,c1,_⟩:=YF mb z l W
 go_in
 go_wp2_with fail;go_ret;exact ZM.mk rfl grown
set_option maxRecDepth 512 in
theorem ZfL:Calls Tryz.prog 305 #[.pointer (some ⟨mb,0,none⟩)] W λ e w'=>∃ ad cap,e=.returned (.slice ad l.length cap)/\ZC 207 2 ad l.length cap (runC l).flatten w' W:=by
 obtain⟨ok,hz,ho,ad,k,cap,c0,c1,hn,hc,h6,h0,R⟩:=YF mb z l W;subst hn
 go_in
 go_wp2_with fail;refine(ZmI ad l.length cap (runC l) W (by omega) (Kk l) (KW l) h0).mono ?_;rintro e w' ⟨ad',cap',rfl,o,_⟩;dsimp only;go_wp2_with fail;go_ret;exact⟨ad',cap',rfl,o⟩
end
theorem Bt.join{W w w':World}{h:Hl}{l:List SP}{p:SP}(B:Bt W h l w)(hg:∃ g,w'=Go.Proofs.YtlfjdjndhcmliaaGreatDoor.gr w g)(c:∃ h,p h/\Has w' h/\Qf w.heap.size h):Bt W h (p::l) w':=⟨B.t.join hg c⟩
def zP(p:SP)(W w:World):Prop:=(∃ g,w=gr W g)/\∃ h,p h/\Has w h/\Qf W.heap.size h
theorem Bt.zero(W:World):Bt W (λ _=>none) [] W:=⟨Zg.same ⟨λ _ _ e=>by cases e⟩ trivial⟩
theorem Bt.new1{W w:World}{p:SP}{l:List SP}(B:Bt W (λ _=>none) (p::l) w):zP p W w:=by
 refine⟨B.gr_of,?_⟩;obtain⟨h',hp,hw,ho⟩:=(Zg.new (λ _=>rfl) (B.fin_at 0 rfl)).2;exact⟨h',hp,hw,ho⟩
def jO(l:List Run)(k:Nat):Nat:=((l.take k).map λ r=>r.2).sum
theorem Vg{l:List Run}{k:Nat}{r:Run}(h:l[k]?=some r):jO l (k+1)=jO l k+r.2:=by
 unfold jO;rw [List.take_add_one,h];simp
theorem Zah{z:Nat}{l:List Run}(h:Y3 z l):∀ k,k<=l.length->jO l k<=k*z
 |0,_=>by simp [jO]
 |k+1,hk=>by
  obtain⟨r,hr⟩:∃ r,l[k]?=some r:=⟨_,List.getElem?_eq_getElem (by omega)⟩
  have:=Zah h k (by omega);have h2:=h.pos r (List.mem_of_getElem? hr);rw [Vg hr,Nat.add_mul];omega
section
variable(mb z:Nat)(l:List Run)(W:World)[D:YD mb z l W]
include D
theorem kF:Fn 300 #[.pointer (some ⟨mb,0,none⟩)] W (.int .i64 ((z:Int)-jO l l.length)):=by
 refine⟨?_⟩;obtain⟨ok,hz,ho,ad0,k0,cap0,c0,c1,hn0,hc,h6,h0,R0⟩:=YF mb z l W;have HS:=λ(w:World)(_:YD mb z l w)=>Zg8 mb z l w
 have HR:=λ(w:World)(_:YD mb z l w)=>ZfL mb z l w
 have hl:l.length<=65536:=by omega
 clear c0 c1 R0 hn0 hc h6 h0
 go_in
 go_wp2_with(go_at_call 304;refine @Fn.go _ _ _ _ _ (HS _ ii) λ g=>?_);refine(HR _ ii).mono ?_;rintro e V1 ⟨ad,cap,rfl,o⟩;have R:=ZC.rd o (QD l) (Kk l);have hB:Below W.heap.size W V1:=by obtain⟨g',rfl⟩:=o.grw;(repeat' (first|(with_reducible exact Below.refl _ _)|(with_reducible refine Xc ?_ _)|(with_reducible refine Z5 ?_ _)|(with_reducible refine Below.setCell ?_ ?_ _)|(with_reducible refine Below.drew ?_)|(simp [go_sem];done)|(simp [go_sem];omega)))
 clear o;dsimp only;go_wp2_with fail
 go_loopw [3,11] (λ m i wr=>∃ k:Nat,k<=l.length/\i=.int .i64 k/\m=.int .i64 ((z:Int)-jO l k)/\∃ g,wr=gr V1 g)
  (λ _ i _=>l.length-(intOf i).toNat)
 case atStart=>exact⟨0,Nat.zero_le _,rfl,by simp [jO],Y1 V1⟩
 case round =>
  obtain⟨k,hk,rfl,rfl,g,rfl⟩:=hrel;have hs:=Zah ok k hk;have hs2:k*z<=65536*65536:=Nat.mul_le_mul (by omega) (by omega)
  by_cases hlt:k<l.length
  ·obtain⟨r,hr⟩:∃ r,l[k]?=some r:=⟨_,List.getElem?_eq_getElem hlt⟩
   have hp:=ok.pos r (List.mem_of_getElem? hr);have hsu:=Vg hr;obtain⟨b,off,rfl,hb,hcl⟩:=(ii:Zy 2 ad l.length cap (runC l) (gr V1 g)).cells k _ (QA hr);have v0:=hcl 0 _ rfl;rw [Nat.add_zero]at v0;have v1:=hcl 1 _ rfl;have Hsu:=Lib.hid hsu;clear hcl hr hsu;go_wp2_with fail;exact⟨⟨k+1,hlt,by go_num,congrArg (Value.int .i64) (by rw [Hsu.out];omega),_,ZK _ _ _⟩,by simp [intOf];omega⟩
  ·obtain rfl:l.length=k:=by omega
   go_wp2_with fail;go_ret;exact ZM.mk rfl (hB.trans (Yb _ _ |>.mono hB.size))
omit D in
theorem ZdL{ad:Option Addr}{cap:Nat}{W w:World}{r:List SP}(ok:Y3 z l)(hz:1<=z/\z<=65536)(B:Bt W (λ _=>none) (Zd mb #[.int .i64 (z:Int),.slice ad l.length cap] 204::Zw 207 2 ad l.length cap (runC l)::r) w):zP (KC mb z l) W w :=
 ((B.app [_,_]).head λ h s=>⟨⟨ok,hz⟩,ad,l.length,cap,s⟩).new1
theorem ZfF:Calls Tryz.prog 61 #[.pointer (some ⟨mb,0,none⟩)] W λ e w'=>∃ mb',e=.returned (.pointer (some ⟨mb',0,none⟩))/\zP (KC mb' z l) W w':=by
 obtain⟨ok,hz,ho,ad,k,cap,c0,c1,hn,hc,h6,h0,R⟩:=YF mb z l W;subst hn;have CL:∀ w,Zy 2 ad l.length cap (runC l) w->_:=λ w (_:Zy 2 ad l.length cap (runC l) w)=>ZmI ad l.length cap (runC l) w (by omega) (Kk l) (KW l) h0
 go_in
 go_wp2_with fail;refine plZ (.q [0,1,2,3,4,5,6,7] (.g 8 (.q [9] (.g 10 (.q [11] .d))))) ?_;simp only [Zk.run,pick,gZ,gS,gA,gN]
 (repeat go_big_quiet_step (exact qZ));refine nZ ?_
 rintro w1 ⟨g1,rfl⟩;go_wp2_with fail;refine(CL _ ii).mono ?_;rintro e w2 ⟨ad',cap',rfl,o,_⟩;obtain⟨hp,hw,hs,hob⟩:=o.slP (QD l) (Kk l);have B:Bt W (λ _=>none) [] (gr W g1):=by have:=Bt.zero W;infer_instance
 have B2:=B.join o.grw ⟨hp,hs,hw,hob⟩;dsimp only;go_wp2_with fail;dsimp only [Nx];refine⟨by obtain⟨g,rfl⟩:=o.grw;exact⟨_,ZW ..⟩,?_⟩;clear o hw hs hob
 (repeat go_big_quiet_step (exact qZ));refine nZ ?_
 rintro w3 hw3;have B3:=Ze hw3;go_wp2_with fail;dsimp only [Nx];refine⟨by obtain⟨g,rfl⟩:=hw3;exact⟨_,ZK _ _ _⟩,?_⟩;clear hw3
 (repeat go_big_quiet_step (exact qZ));refine nZ ?_
 rintro w4 hw4;have B4:=Ze hw4;clear hw4;go_wp2_with fail;go_ret;exact⟨_,rfl,ZdL _ z l ok hz B4⟩
end
theorem ZcR(z:Nat)(h1:1<=z)(h2:z<=65536)(W:World):Calls Tryz.prog 131 #[.int .i64 z] W λ e w'=>∃ mb',e=.returned (.tuple #[.pointer (some ⟨mb',0,none⟩),.int .i64 0])/\zP (KC mb' z []) W w':=by
 have e1:¬ (z:Int)<1:=by omega
 have e2:¬ (65536:Int)<z:=by omega
 go_in
 go_wp2_with fail;go_ret2;have B0:=(Bt.zero W).more (Zw.nil 207 2 _);simp only [List.nil_append]at B0;exact⟨_,rfl,ZdL _ z [] ⟨List.Pairwise.nil,λ r hr=>by cases hr⟩ ⟨h1,h2⟩ (ad:=none) (cap:=0) ii⟩
def Ko(l:List Run)(k:Nat):List Run:=(l.take k).foldl Qb []
theorem Za3{l:List Run}{k:Nat}{r:Run}(h:l[k]?=some r):Ko l (k+1)=Qb (Ko l k) r:=by
 unfold Ko;rw [List.take_add_one,h];simp
theorem Kd(Q:List Run)(q r:Run):Qb (Q++[q]) r=if q.1+q.2=r.1 then Q++[(q.1,q.2+r.2)]else if 0<r.2 then Q++[q]++[r]else Q++[q]:=by
 unfold Qb;simp
theorem ZgZ{J:List Run}{r:Run}(hJ:∀ q∈J,q.1+q.2<=65536)(hr:r.1+r.2<=65536):∀ q∈Qb J r,q.1+q.2<=65536:=by
 intro q hq;rcases List.eq_nil_or_concat J with rfl|⟨Q,p,rfl⟩
 ·unfold Qb at hq;simp only [List.getLast?_nil]at hq;split at hq
  ·simp at hq;subst hq;exact hr
  ·simp at hq
 ·rw [List.concat_eq_append]at *
  rw [Kd]at hq;split at hq
  ·rename_i h;rcases List.mem_append.1 hq with h1|h1
   ·exact hJ q (by simp [h1])
   ·obtain rfl:=List.mem_singleton.1 h1;dsimp only;omega
  ·split at hq
   ·rcases List.mem_append.1 hq with h1|h1
    ·exact hJ q h1
    ·obtain rfl:=List.mem_singleton.1 h1;exact hr
   ·exact hJ q hq
theorem Zfw(J:List Run)(r:Run):(Qb J r).length<=J.length+1:=by
 rcases List.eq_nil_or_concat J with rfl|⟨Q,p,rfl⟩
 ·unfold Qb;simp only [List.getLast?_nil];split<;>simp
 ·rw [List.concat_eq_append,Kd];split
  ·simp
  ·split<;>simp
theorem Zw.fz{t:TypeId}{z g n cap:Nat}{L:List (List Value)}{h:Hl}(p:Zw t z (some ⟨g,0,none⟩) n cap L h)(W:World)[Has W h]:(∀ k:Nat,W.frozen? ⟨g,k,none⟩=false)/\Yc g W:=by
 rcases p.2.2 with ⟨h1,_⟩|⟨g',e,_,cur,r1,_⟩
 ·cases h1
 ·cases e;exact⟨λ k=>Has.frozen r1,Has.old r1⟩
theorem Bt.slSet{t:TypeId}{z g n cap i j k:Nat}{L:List (List Value)}{l:List SP}{W w:World}{h:Hl}{x:List Value}(B:Bt W h l w)(e:l[k]?=some (Zw t z (some ⟨g,0,none⟩) n cap L))(hx:L[i]?=some x)(hj:j<z)(v:Value):Bt W h (l.set k (Zw t z (some ⟨g,0,none⟩) n cap (L.set i (x.set j v)))) (w.setCell ⟨g,i*z+j,none⟩ v):=⟨B.t.turn e λ h p i=>p.setc hx hj v w⟩
theorem ZeK(ad:Option Addr)(cap:Nat)(l:List Run)(W:World)[R:Zy 2 ad l.length cap (runC l) W](hl:l.length<=100000)(hr:∀ r∈l,0<r.2/\r.1+r.2<=65536) :
  Calls Tryz.prog 189 #[.slice ad l.length cap] W λ e w'=>∃ ad' cap',e=.returned (.slice ad' (QK l).length cap')/\zP (Zw 207 2 ad' (QK l).length cap' (runC (QK l))) W w':=by
 have hjl:Ko l l.length=QK l:=by unfold Ko QK;rw [List.take_length]
 rw [<-hjl];clear hjl;have B:=(Bt.zero W).more (Zw.nil 207 2 _);simp only [List.nil_append]at B
 go_in
 go_wp2_with fail
 go_loopw [3,9] (λ ov i wr=>∃(k:Nat)(J:List Run)(ad':Option Addr)(cap':Nat),k<=l.length/\i=.int .i64 k/\J=Ko l k/\(∀ q∈J,q.1+q.2<=65536)/\J.length<=k/\ov=.slice ad' J.length cap'/\Bt W (λ _=>none) [Zw 207 2 ad' J.length cap' (runC J)] wr)
  (λ _ i _=>l.length-(intOf i).toNat)
 case atStart=>exact⟨0,[],none,0,Nat.zero_le _,rfl,rfl,(λ q hq=>by cases hq),Nat.le_refl _,rfl,B⟩
 case round =>
  clear B;obtain⟨k,J,ad',cap',hk,rfl,hJ,hbd,hlen,rfl,B⟩:=hrel;have hg:=B.gr_of
  by_cases hlt:k<l.length
  ·obtain⟨r,hrk⟩:∃ r,l[k]?=some r:=⟨_,List.getElem?_eq_getElem hlt⟩
   have hp:=hr r (List.mem_of_getElem? hrk);have hjs:=Za3 hrk;rw [<-hJ]at hjs;have hbd2:=ZgZ hbd hp.2;have hlen2:=Zfw J r;rw [<-hjs]at hbd2 hlen2;obtain⟨b,off,rfl,hb,hcl⟩:=(by obtain⟨g,rfl⟩:=hg;infer_instance:Zy 2 ad l.length cap (runC l) wr).cells k _ (QA hrk);have v0:=hcl 0 _ rfl;have v1:=hcl 1 _ rfl;rw [Nat.add_zero]at v0;have Hjs:=Lib.hid hjs;have Hbd:=Lib.hid hbd2;clear hcl hrk hjs hbd2 hr hg hJ;rcases List.eq_nil_or_concat J with rfl|⟨Q,q,rfl⟩
   ·have hJ0:([]:List Run).length=0:=rfl;go_wp2_with fail;refine plZ (.q [0,1,2,3,4,5,6,7,8,9,10,11,12,13,14,15,16,17] .d) ?_;simp only [Zk.run,pick,gZ,gS,gA,gN]
    (repeat go_big_quiet_step (exact qZ));refine nZ ?_
    rintro w2 hw2;have B2:=Ze hw2;clear hw2;have hr0:(0:Int)<r.2:=by omega
    go_wp2_with(at_builtin;(with_reducible apply ZI);(·exact rfl);(·exact rfl);(·exact ii);(·exact ii);(·exact ii);(·exact rfl);(·decide);(·omega);intro gA capA wA bA;(try dsimp only at bA));have e:Ko l (k+1)=[r]:=by rw [Hjs.out];unfold Qb;simp only [List.getLast?_nil];rw [if_pos hp.1];rfl
    exact⟨⟨k+1,[r],some ⟨gA,0,none⟩,capA,hlt,by go_num,e.symm,by rw [<-e];exact Hbd.out,by simp,rfl,Bt.drop (Bt.drop bA)⟩,by simp [intOf];omega⟩
   ·rw [List.concat_eq_append]at *
    have hq:=hbd q (by simp);have hjl:(Q++[q]).length=Q.length+1:=by simp
    obtain⟨g0,rfl,R2⟩:∃ g0,ad'=some ⟨g0,0,none⟩/\Zy 2 (some ⟨g0,0,none⟩) (Q++[q]).length cap' (runC (Q++[q])) wr:=by
     obtain⟨h0,p,hw⟩:=B.mem (i:=0) rfl;have R:=p.rd wr;rcases p.2.2 with ⟨_,h1,_⟩|⟨g0,e,_⟩
     ·rw [hjl]at h1;omega
     ·subst e;exact⟨g0,rfl,R⟩
    obtain⟨b2,off2,e2,hb2,hcl⟩:=R2.cells Q.length [.int .i64 (q.1:Int),.int .i64 (q.2:Int)] (QA (by simp));cases e2;have u0:=hcl 0 _ rfl;have u1:=hcl 1 _ rfl;rw [Nat.add_zero,Nat.zero_add]at u0;rw [Nat.zero_add]at u1;clear hcl R2;rw [hjl]at B ⊢;have hqq:(q.1:Int)+q.2<=65536:=by omega
    have hlq:Q.length<=100000:=by omega
    have hlk:Q.length+1<=k:=by omega
    by_cases heq:q.1+q.2=r.1
    ·have heq':(q.1:Int)+q.2=r.1:=by omega
     have e:Ko l (k+1)=Q++[(q.1,q.2+r.2)]:=by rw [Hjs.out,Kd,if_pos heq]
     have E:=Lib.hid e;have Heq:=Lib.hid heq;clear heq e hjl hlen hlen2 hbd;go_wp2_with fail;refine plZ (.q [0,1,2,3,4,5,6,7,8,9,10,11,12,13,14,15,16,17] .d) ?_;simp only [Zk.run,pick,gZ,gS,gA,gN]
     (repeat go_big_quiet_step (exact qZ));refine nZ ?_
     rintro w2 hw2;have B2:=Ze hw2;have u1':w2.cell? ⟨g0,Q.length*2+1,none⟩=some (.int .i64 (q.2:Int)):=by obtain⟨gg,rfl⟩:=hw2;simp [go_sem,u1]
     have og:Yc g0 w2:=by obtain⟨gg,rfl⟩:=hw2;infer_instance
     clear hw2;go_wp2_with fail;refine plZ (.q [0,1,2,3,4,5,6,7,8,9] (.x [10] .d)) ?_;simp only [Zk.run,pick,gZ,gS,gA,gN]
     (repeat go_big_quiet_step (exact qZ));refine nZ ?_
     rintro w3 hw3;have B3:=Ze hw3;clear hw3
     obtain⟨fz,og3⟩:(∀ k:Nat,w3.frozen? ⟨g0,k,none⟩=false)/\Yc g0 w3:=by
      obtain⟨h0,p,hw⟩:=B3.mem (i:=1) rfl;exact p.fz w3
     have u3:∃ v,w3.cell? ⟨g0,Q.length*2+1,none⟩=some v:=by
      obtain⟨h0,p,hw⟩:=B3.mem (i:=1) rfl;obtain⟨b5,o5,e5,_,hc5⟩:=(p.rd w3).cells Q.length [.int .i64 (q.1:Int),.int .i64 (q.2:Int)] (QA (by simp));cases e5;have:=hc5 1 _ rfl;rw [Nat.zero_add]at this;exact⟨_,this⟩
     obtain⟨v3,u3⟩:=u3;have B4:=B3.slSet (k:=1) (i:=Q.length) (j:=1) rfl (QA (r:=q) (by simp)) (by omega) (.int .i64 ((q.2:Int)+r.2));go_wp2_with fail;dsimp only [Nx];rintro w5 hw5;have B5:=B4.cls hw5;clear hw5;go_wp2_with fail
     have e3:(runC (Q++[q])).set Q.length ([Value.int .i64 (q.1:Int),.int .i64 (q.2:Int)].set 1 (.int .i64 ((q.2:Int)+r.2)))=runC (Q++[(q.1,q.2+r.2)]):=by
      unfold runC;rw [List.map_append,List.set_append_right _ _ (by simp)];simp
     have e4:(Q++[(q.1,q.2+r.2)]).length=Q.length+1:=by simp
     rw [e3]at B5;refine⟨⟨k+1,Q++[(q.1,q.2+r.2)],some ⟨g0,0,none⟩,cap',hlt,by go_num,E.out.symm,by rw [<-E.out];exact Hbd.out,by rw [e4];omega,by rw [e4],?_⟩,by simp [intOf];omega⟩;rw [e4];exact Bt.drop B5
    ·have heq':((q.1:Int)+q.2==r.1)=false:=by rw [beq_eq_false_iff_ne];omega
     have e:Ko l (k+1)=Q++[q]++[r]:=by rw [Hjs.out,Kd,if_neg heq,if_pos hp.1]
     have E:=Lib.hid e;have Heq:=Lib.hid heq;have hr0:(0:Int)<r.2:=by omega
     clear heq e hjl hlen2 hbd;go_wp2_with fail;refine plZ (.q [0,1,2,3,4,5,6,7,8,9,10,11,12,13,14,15,16,17] .d) ?_;simp only [Zk.run,pick,gZ,gS,gA,gN]
     (repeat go_big_quiet_step (exact qZ));refine nZ ?_
     rintro w2 hw2;have B2:=Ze hw2;clear hw2;go_wp2_with(at_builtin;(with_reducible apply ZI);(·exact rfl);(·exact rfl);(·exact ii);(·exact ii);(·exact ii);(·exact rfl);(·decide);(·omega);intro gA capA wA bA;(try dsimp only at bA));have e4:(Q++[q]++[r]).length=Q.length+1+1:=by simp
     have e5:runC (Q++[q]++[r])=runC (Q++[q])++[[.int .i64 (r.1:Int),.int .i64 (r.2:Int)]]:=by simp [runC]
     refine⟨⟨k+1,Q++[q]++[r],some ⟨gA,0,none⟩,capA,hlt,by go_num,E.out.symm,by rw [<-E.out];exact Hbd.out,by rw [e4];omega,by rw [e4],?_⟩,by simp [intOf];omega⟩;rw [e4,e5];exact Bt.drop (Bt.drop bA)
  ·obtain rfl:l.length=k:=by omega
   subst hJ;go_wp2_with fail;go_ret;exact⟨_,_,rfl,B.new1⟩
theorem Zy.takeR{z:Nat}{ad:Option Addr}{n cap:Nat}{xs:List (List Value)}{W:World}(r:Zy z ad n cap xs W)(i c:Nat)(hi:i<=n):Zy z ad i c (xs.take i) W:=⟨by rw [List.length_take,r.len];omega,λ k x hx=>by
 rw [List.getElem?_take]at hx;split at hx
 ·exact r.cells k x hx
 ·cases hx⟩
theorem Zy.dropR{z b o:Nat}{n cap:Nat}{xs:List (List Value)}{W:World}(r:Zy z (some ⟨b,o,none⟩) n cap xs W)(i c:Nat)(_:i<=n):Zy z (some ⟨b,o+i*z,none⟩) (n-i) c (xs.drop i) W:=⟨by rw [List.length_drop,r.len],λ k x hx=>by
 rw [List.getElem?_drop]at hx;obtain⟨b',o',e,h1,h2⟩:=r.cells (i+k) x hx;cases e;refine⟨b,o+i*z,rfl,h1,λ j v hj=>?_⟩;have:=h2 j v hj;rw [show o+i*z+k*z+j=o+(i+k)*z+j by rw [Nat.add_mul];omega]
 exact this⟩
theorem ZhC(mb z:Nat)(l:List Run)(at_ n:Nat)(h1:1<=n)(h2:at_+n<=z)(r:Run)(hr:l[Z3 l at_]?=some r)(hlt:r.1<at_+n):Tq 134 #[.pointer (some ⟨mb,0,none⟩),.int .i64 at_,.int .i64 n] (KC mb z l) λ v q=>v=.int .i64 13/\q=KC mb z l:=by
 refine Tq.of λ W h B=>?_
 haveI:YD mb z l W:=⟨ii⟩
 obtain⟨ok,hz,ho,ad,k,cap,c0,c1,hn,hc,h6,h0,R⟩:=YF mb z l W;subst hn;have HM:∀ w,[YD mb z l w]->Fn 187 #[.pointer (some ⟨mb,0,none⟩),.int .i64 at_,.int .i64 n] w (.bool true):=λ w _=>Zdp mb z l w at_ n h1 h2
 have HF:∀ w,[YD mb z l w]->Fn 188 #[.pointer (some ⟨mb,0,none⟩),.int .i64 at_] w (.int .i64 (Z3 l at_:Nat)):=λ w _=>kI mb z l w at_ (by omega)
 obtain⟨i,hi⟩:∃ i,i=Z3 l at_:=⟨_,rfl⟩
 rw [<-hi]at HF hr;have hil:i<l.length:=(List.getElem?_eq_some_iff.1 hr).1;have hp:=ok.pos r (List.mem_of_getElem? hr);obtain⟨b,off,rfl,hb,hcl⟩:=R.cells i _ (QA hr);have v0:=hcl 0 _ rfl;rw [Nat.add_zero]at v0;have hlt':(r.1:Int)<(at_:Int)+n:=by omega
 have Hi:=Lib.hid hi;clear hcl hr hi
 go_in
 go_wp2_with(with_reducible refine Fn.go λ g=>?_);go_ret
 (first|apply Zv|apply Zu)
 exact⟨⟨rfl,rfl⟩,Bt.fin⟩
end Go.Proofs.YtlfjdjndhcmliaaGreatDoor
