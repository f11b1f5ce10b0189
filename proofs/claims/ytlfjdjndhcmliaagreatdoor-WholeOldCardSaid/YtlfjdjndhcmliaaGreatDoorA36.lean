/- WholeOld, part 36. -/
import Derived.Test.YtlfjdjndhcmliaaGreatDoorA35
import Derived.Test.YtlfjdjndhcmliaaGreatDoorA30
import Derived.Test.YtlfjdjndhcmliaaGreatDoorA34
import Derived.Test.YtlfjdjndhcmliaaGreatDoorA24
set_option maxRecDepth 100000
set_option maxHeartbeats 4000000
set_option linter.all false
namespace Go.Proofs.YtlfjdjndhcmliaaGreatDoor
open Go.RowKit Go.Sort
def VU(live:Nd)(n:Nat):ByteArray:=yD (⟨#[]⟩++live.bytes) [(n:Int)]
def msS(o:ByteArray)(l:List Sn):ByteArray:=l.foldl (λ o x=>yD o [x.id,x.txg]++x.dir.bytes) o
def msR(o:ByteArray):Nat->ByteArray
 |0=>o
 |k+1=>yD (msR o k) [0,0]
def msB(live:Nd)(l:List Sn)(n:Nat):ByteArray:=msR (yD (yD (msS (VU live l.length) l) (List.replicate 9 0)) [(n:Int)]) n
theorem ZfR{o:ByteArray}{l:List Sn}{k:Nat}{x:Sn}(h:l[k]?=some x):msS o (l.take (k+1))=yD (msS o (l.take k)) [x.id,x.txg]++x.dir.bytes:=by
 unfold msS;rw [List.take_add_one,h,List.foldl_append];rfl
theorem yX(l:List Sn):∀(o:ByteArray),(∀ x∈l,Yv x.dir)->(msS o l).size<=o.size+144*l.length:=by
 induction l with
 |nil=>intro o _;simp [msS]
 |cons x l ih =>
  intro o h;haveI:=h x (by simp);have h1:=ih (yD o [x.id,x.txg]++x.dir.bytes) (λ y hy=>h y (by simp [hy]));have h2:=Qg [x.id,x.txg] o;rw [Zs,x.dir.bytes_size]at h1;show (msS (yD o [x.id,x.txg]++x.dir.bytes) l).size<=_;simp only [List.length_cons,List.length_nil]at *
  omega
theorem ku(o:ByteArray):∀ n,(msR o n).size<=o.size+16*n
 |0=>by simp [msR]
 |n+1=>by
  have h1:=ku o n;have h2:=Qg [0,0] (msR o n);simp only [List.length_cons,List.length_nil]at h2;simp only [msR];omega
theorem Zbj(live:Nd)[Yv live](n:Nat):(VU live n).size<=136:=by
 have:=Qg [(n:Int)] (⟨#[]⟩++live.bytes);rw [Zs,live.bytes_size]at this;have e:(⟨#[]⟩:ByteArray).size=0:=rfl;simp only [List.length_cons,List.length_nil]at this;unfold VU;omega
theorem ZaJ(live:Nd)[Yv live](l:List Sn)(n:Nat)(h:∀ x∈l,Yv x.dir):(msB live l n).size<=216+144*l.length+16*n:=by
 have h1:=ku (yD (yD (msS (VU live l.length) l) (List.replicate 9 0)) [(n:Int)]) n;have h2:=Qg [(n:Int)] (yD (msS (VU live l.length) l) (List.replicate 9 0));have h3:=Qg (List.replicate 9 0) (msS (VU live l.length) l);have h4:=yX l (VU live l.length) h;have h5:=Zbj live l.length;simp only [List.length_cons,List.length_nil,List.length_replicate]at *
 unfold msB;omega
set_option maxRecDepth 512 in
theorem Za9(W:World):Calls Tryz.prog 113 #[.agg #[.int .i64 0,.int .i64 0,.int .i64 0,.int .i64 0,.int .i64 0,.int .i64 0,.int .i64 0,.int .i64 0,.int .i64 0]] W λ e w'=>∃ b,e=.returned (.slice (some ⟨b,0,none⟩) 9 9)/\zP (YC 3 1 b 9 (inV (List.replicate 9 0))) W w':=by
 haveI:=Bt.zero W
 go_in
 go_wp2_with fail;go_ret;exact⟨_,rfl,Bt.new1 (Bt.row1 ii rfl (by simp [inV]) rfl)⟩
theorem Zk8{t:TypeId}{b n:Nat}{L:List (List Value)}(hn:L.length=n):∀ h,YC t 1 b n L h->∀ W,Has W h->Zy 1 (some ⟨b,0,none⟩) n n L W:=λ h p W i=>p.rd hn W
theorem ZeP(live:Nd)[Yv live](sa:Option Addr)(scap:Nat)(l:List Sn)(n:Nat)(ra:Option Addr)(rcap:Nat)(hl:l.length<=4)(hn:n<=100)(hd:∀ x∈l,Yv x.dir)(hi:∀ x∈l,(0<=x.id/\x.id<=99)/\(1<=x.txg/\x.txg<=4294967295))
  (W:World) [RS:Zy 15 sa l.length scap (Ye l) W] [RR:Zy 2 ra n rcap (YU n) W] :
  Calls Tryz.prog 64 #[.agg (mC live (.slice sa l.length scap) (.slice ra n rcap))] W λ e w'=>e=.returned (.tuple #[.string (msB live l n),.int .i64 0])/\∃ g,w'=gr W g:=by
 have CT:=λ(b:Nat)(o:ByteArray)(ho:o.size<=1000000)(g n:Nat)(vs:List Int)(hl:vs.length=n)(hn:n<=1000)(hv:∀ i∈vs,0<=i/\i<=4611686018427387903)=>Ze5 b o (some ⟨g,0,none⟩) n n vs (YC 3 1 g n (inV vs)) (Zk8 (by simpa [inV]using hl)) hv hn ho
 haveI:=Bt.zero W
 go_in
 go_wp2_with((with_reducible apply Za);(·exact rfl);(·exact ii));refine ZB (W:=W) (h:=λ _=>none) (l:=[Zd (W.heap.size+1) (mwC ⟨#[]⟩) 210,Zd W.heap.size (mC live (.slice sa l.length scap) (.slice ra n rcap)) 78]) ii ?_;rintro w1 B1;obtain⟨bw,hbw⟩:∃ b,W.heap.size+1=b:=⟨_,rfl⟩
 rw [hbw]at B1 ⊢;clear hbw;refine(Bt.call (Za5 bw ⟨#[]⟩ live (by decide))).mono ?_;rintro e w2 ⟨v,q,rfl,rfl,B2⟩;clear B1;dsimp only;have hz0:(⟨#[]⟩++live.bytes:ByteArray).size<=1000000:=by rw [Zs,live.bytes_size];decide
 go_wp2_with fail;refine ZB (W:=W) (h:=λ _=>none) (l:=[Zd _ #[.int .i64 l.length] 3,Zd bw (mwC (⟨#[]⟩++live.bytes)) 210,Zd W.heap.size (mC live (.slice sa l.length scap) (.slice ra n rcap)) 78]) ii ?_;rintro w3 B3a;have B3b:=Bt.row1 (z:=1) (n:=1) (L:=inV [(l.length:Int)]) B3a rfl (by simp [inV]) rfl;have B3c:=Bt.oS (B3b) [1,0,2];haveI B3d:=B3c.app [_,_];clear B3a B3b B3c;refine(Bt.call (CT bw (⟨#[]⟩++live.bytes) hz0 _ 1 [(l.length:Int)] rfl (by decide) (by intro i hi;simp at hi;subst hi;omega))).mono ?_;rintro e w3' ⟨v,q,rfl,rfl,B3e⟩;clear B3d;dsimp only;have B3:=Bt.oS (B3e.flat) [1,0,2];have B3':=B3.drop;clear B3 B3e;have e1:yD (⟨#[]⟩++live.bytes) [(l.length:Int)]=VU live l.length:=rfl;rw [e1]at B3';clear B2;have HH:=Lib.hid (Zbj live l.length);go_wp2_with fail
 go_loopw [24] (λ i wr=>∃ k:Nat,k<=l.length/\i=.int .i64 k/\Bt W (λ _=>none) [Zd bw (mwC (msS (VU live l.length) (l.take k))) 210,Zd W.heap.size (mC live (.slice sa l.length scap) (.slice ra n rcap)) 78] wr) (λ i _=>l.length-(intOf i).toNat)
 case atStart=>exact⟨0,Nat.zero_le _,rfl,B3'⟩
 case round =>
  clear B3';obtain⟨k,hk,rfl,B⟩:=hrel
  by_cases hlt:k<l.length
  ·obtain⟨x,hx⟩:∃ x,l[k]?=some x:=⟨_,List.getElem?_eq_getElem hlt⟩
   have hxm:=List.mem_of_getElem? hx;have hxi:=hi x hxm;haveI:=hd x hxm;haveI:Zy 15 sa l.length scap (Ye l) wr:=qU RS B.gr_of;obtain⟨b,o,rfl,hb,hc⟩:=this.cells k x.cs (by simp [Ye,hx]);haveI:ZJ b (o+k*15) (#[.int .i64 x.id,.int .i64 x.txg,.int .i64 x.dir.size,.int .i64 x.dir.root.ag,.int .i64 x.dir.root.aa,.int .i64 x.dir.root.bg,.int .i64 x.dir.root.ba,.bool x.dir.root.two,.int .i64 x.dir.root.size,.int .i64 x.dir.root.level,.int .i64 x.dir.root.birth,.int .u64 x.dir.root.sum.a,.int .u64 x.dir.root.sum.b,.int .u64 x.dir.root.sum.c,.int .u64 x.dir.root.sum.d]) 15 wr:=⟨rfl,hb,λ j v e=>hc j v e⟩
   have e2:=Lib.hid (ZfR (o:=VU live l.length) hx)
   have hz1:(msS (VU live l.length) (l.take k)).size<=1000000:=by
    have h1:=yX (l.take k) (VU live l.length) (λ y hy=>hd y (List.mem_of_mem_take hy));have h2:=HH.out;rw [List.length_take]at h1;omega
   have hz3:(msS (VU live l.length) (l.take k)).size<=900000:=by
    have h1:=yX (l.take k) (VU live l.length) (λ y hy=>hd y (List.mem_of_mem_take hy));have h2:=HH.out;rw [List.length_take]at h1;omega
   obtain⟨o1,ho1⟩:∃ o1,msS (VU live l.length) (l.take k)=o1:=⟨_,rfl⟩
   rw [ho1]at B e2 hz1 hz3;clear hx hc hxm hi ho1;go_wp2_with(first|((with_reducible apply Za);(·exact rfl);(·exact ii))|((with_reducible apply Zb);(·exact rfl);(·exact rfl);(·exact ii)));refine ZB (W:=W) (h:=λ _=>none) (l:=[Zd _ #[.int .i64 x.id,.int .i64 x.txg] 3,Zd _ #[.int .i64 x.id,.int .i64 x.txg,.int .i64 x.dir.size,.int .i64 x.dir.root.ag,.int .i64 x.dir.root.aa,.int .i64 x.dir.root.bg,.int .i64 x.dir.root.ba,.bool x.dir.root.two,.int .i64 x.dir.root.size,.int .i64 x.dir.root.level,.int .i64 x.dir.root.birth,.int .u64 x.dir.root.sum.a,.int .u64 x.dir.root.sum.b,.int .u64 x.dir.root.sum.c,.int .u64 x.dir.root.sum.d] 125,Zd bw (mwC o1) 210,Zd W.heap.size (mC live (.slice (some ⟨b,o,none⟩) l.length scap) (.slice ra n rcap)) 78]) ii ?_;rintro w4 B4a;have B4b:=Bt.row1 (z:=1) (n:=2) (L:=inV [x.id,x.txg]) B4a rfl (by simp [inV]) rfl;have B4c:=Bt.oS (B4b) [2,0,1,3];haveI B4d:=B4c.app [_,_];clear B4a B4b B4c;refine(Bt.call (CT bw o1 hz1 _ 2 [x.id,x.txg] rfl (by decide) (by intro i hi;simp at hi;rcases hi with rfl|rfl<;>omega))).mono ?_;rintro e w4' ⟨v,q,rfl,rfl,B4e⟩;clear B4d;dsimp only;have B4:=Bt.oS (B4e.flat) [1,0,2,3];have B4':=B4.drop;clear B4 B4e;clear B
   have hz2:(yD o1 [x.id,x.txg]).size<=1000000:=by
    have h1:=Qg [x.id,x.txg] o1;simp only [List.length_cons,List.length_nil]at h1;omega
   go_wp2_with((with_reducible apply Za);(·exact rfl);(·exact ii));refine(Bt.call (Za5 bw (yD o1 [x.id,x.txg]) x.dir hz2)).mono ?_;rintro e w5 ⟨v,q,rfl,rfl,B5⟩;clear B4';dsimp only;go_wp2_with fail;refine⟨⟨k+1,hlt,by go_num,?_⟩,by simp [intOf];omega⟩;rw [e2.out];have B6:=Bt.oS (B5) [1,0,2];exact B6.drop
  ·obtain rfl:l.length=k:=by omega
   rw [List.take_length]at B
   have hz1:(msS (VU live l.length) l).size<=1000:=by
    have h1:=yX l (VU live l.length) hd;have h2:=HH.out;omega
   clear hd hi;go_wp2_with((with_reducible apply Za);(·exact rfl);(·exact ii));refine(Za9 _).mono ?_;rintro e w3 ⟨nb,rfl,hg,hn'⟩;have B1:=B.join hg hn';clear B hg hn';dsimp only;go_wp2_with fail;obtain⟨o2,ho2⟩:∃ o2,msS (VU live l.length) l=o2:=⟨_,rfl⟩
   rw [ho2]at B1 hz1;have Ho2:=Lib.hid ho2;clear ho2;have B2:=Bt.oS (B1) [1,0,2];haveI B3:=B2.app [_,_];clear B1 B2;refine(Bt.call (CT bw o2 (by omega) nb 9 (List.replicate 9 0) rfl (by decide) (by intro i hi;rw [(List.mem_replicate.1 hi).2];omega))).mono ?_;rintro e w4 ⟨v,q,rfl,rfl,B4⟩;clear B3;dsimp only;have B5:=Bt.oS (B4.flat) [1,0,2];have B6:=B5.drop;clear B4 B5
   have hz2:(yD o2 (List.replicate 9 0)).size<=1100:=by
    have h1:=Qg (List.replicate 9 0) o2;rw [List.length_replicate]at h1;omega
   obtain⟨o3,ho3⟩:∃ o3,yD o2 (List.replicate 9 0)=o3:=⟨_,rfl⟩
   rw [ho3]at B6 hz2;have Ho3:=Lib.hid ho3;clear ho3 hz1;have hz2':o3.size<=1000000:=by omega
   go_wp2_with fail;refine ZB (W:=W) (h:=λ _=>none) (l:=[Zd _ #[.int .i64 n] 3,Zd bw (mwC o3) 210,Zd W.heap.size (mC live (.slice sa l.length scap) (.slice ra n rcap)) 78]) ii ?_;rintro w5 B7a;have B7b:=Bt.row1 (z:=1) (n:=1) (L:=inV [(n:Int)]) B7a rfl (by simp [inV]) rfl;have B7c:=Bt.oS (B7b) [1,0,2];haveI B7d:=B7c.app [_,_];clear B7a B7b B7c;refine(Bt.call (CT bw o3 hz2' _ 1 [(n:Int)] rfl (by decide) (by intro i hi;simp at hi;subst hi;omega))).mono ?_;rintro e w5' ⟨v,q,rfl,rfl,B7e⟩;clear B7d;dsimp only;have B7:=Bt.oS (B7e.flat) [1,0,2];have B7':=B7.drop;clear B7 B7e;clear B6
   have hz3:(yD o3 [(n:Int)]).size<=1200:=by
    have h1:=Qg [(n:Int)] o3;simp only [List.length_cons,List.length_nil]at h1;omega
   obtain⟨o4,ho4⟩:∃ o4,yD o3 [(n:Int)]=o4:=⟨_,rfl⟩
   rw [ho4]at B7' hz3;have Ho4:=Lib.hid ho4;clear ho4 hz2 hz2';go_wp2_with fail
   go_loopw [54] (λ i wr=>∃ k:Nat,k<=n/\i=.int .i64 k/\Bt W (λ _=>none) [Zd bw (mwC (msR o4 k)) 210,Zd W.heap.size (mC live (.slice sa l.length scap) (.slice ra n rcap)) 78] wr) (λ i _=>n-(intOf i).toNat)
   case atStart=>exact⟨0,Nat.zero_le _,rfl,B7'⟩
   case round =>
    clear B7';obtain⟨k,hk,rfl,B⟩:=hrel
    by_cases hlt:k<n
    ·haveI:Zy 2 ra n rcap (YU n) wr:=qU RR B.gr_of;obtain⟨b,o,rfl,hb,hc⟩:=this.cells k [.int .i64 0,.int .i64 0] (by simp [YU,hlt]);haveI:ZJ b (o+k*2) (#[.int .i64 0,.int .i64 0]) 2 wr:=⟨rfl,hb,λ j v e=>hc j v e⟩
     have hz4:(msR o4 k).size<=1000000:=by have:=ku o4 k;omega
     clear hc;go_wp2_with(first|((with_reducible apply Za);(·exact rfl);(·exact ii))|((with_reducible apply Zb);(·exact rfl);(·exact rfl);(·exact ii)));refine ZB (W:=W) (h:=λ _=>none) (l:=[Zd _ #[.int .i64 0,.int .i64 0] 3,Zd _ #[.int .i64 0,.int .i64 0] 92,Zd bw (mwC (msR o4 k)) 210,Zd W.heap.size (mC live (.slice sa l.length scap) (.slice (some ⟨b,o,none⟩) n rcap)) 78]) ii ?_;rintro w6 B8a;have B8b:=Bt.row1 (z:=1) (n:=2) (L:=inV [0,0]) B8a rfl (by simp [inV]) rfl;have B8c:=Bt.oS (B8b) [2,0,1,3];haveI B8d:=B8c.app [_,_];clear B8a B8b B8c;refine(Bt.call (CT bw (msR o4 k) hz4 _ 2 [0,0] rfl (by decide) (by decide))).mono ?_;rintro e w6' ⟨v,q,rfl,rfl,B8e⟩;clear B8d;dsimp only;have B8:=Bt.oS (B8e.flat) [1,0,2,3];have B8':=B8.drop;clear B8 B8e;clear B;go_wp2_with fail;refine⟨⟨k+1,hlt,by go_num,?_⟩,by simp [intOf];omega⟩;have B9:=Bt.oS (B8') [1,0,2];exact B9.drop
    ·obtain rfl:n=k:=by omega
     go_wp2_with fail;go_ret2;have e:msB live l n=msR o4 n:=by rw [<-Ho4.out,<- Ho3.out,<- Ho2.out];rfl
     rw [e];exact⟨rfl,B.gr_of⟩
theorem XE{W w:World}{h:Hl}{l:List SP}{x:Value}{R:Value->SP->Prop}(B:Bt W h l w)(k:∀ w',Bt W h l w'->∃ q,R x q/\Zg W h q w'):∃ v q,Ending.returned x=.returned v/\R v q/\Zg W h q w:=by
 obtain⟨q,a,b⟩:=k w B;exact⟨x,q,rfl,a,b⟩
theorem VF{W w:World}{h:Hl}{l:List SP}{x:Value}{R:Value->SP->Prop}(B:Bt W h l w)(k:∀ w',Bt W h l w'->∃ q,R x q/\Zg W h q w'):∃ v,Ending.returned x=.returned v/\∃ q,R v q/\Zg W h q w:=by
 obtain⟨q,a,b⟩:=k w B;exact⟨x,rfl,q,a,b⟩
section
variable{V:VD}{pb txg:Nat}{root live:Nd}{l:List Sn}{K:KS}{C:Nat}
theorem ZeF(ht:txg+1<=4294967295)(hl:l.length<=4)(hlive:Yv live)(hd:∀ x∈l,Yv x.dir)(hi:∀ x∈l,(0<=x.id/\x.id<=99)/\(1<=x.txg/\x.txg<=4294967295))(hC:70000<=C)(hC9:C<=1000000000)(t:ByteArray)(hmt:msB live l V.ds.length=t)
  (sa:Option Addr) (scap:Nat) (ra:Option Addr) (rcap:Nat) (ow:Option Addr) (bk:Nat) (sb:ZO) (N:Nat) (F:Nat->Nat->ByteArray) (ms:List MD) (es:List Nat) (ok:Qu V sb K C N F ms) :
  Tq 25 #[pV pb] (star (yI V pb txg root live l sa scap ra rcap (some ⟨bk,0,none⟩) none ow bk sb N F ms es)) λ v q=>∃(n':Nd)(e:Int)(K':KS)(N':Nat)(F':Nat->Nat->ByteArray)(ms':List MD)(es':List Nat),v=.tuple #[.agg n'.cs,.int .i64 e]/\(Qu V sb K' (C-70000) N' F' ms'/\K.le K'/\(e=0->yG K' n' (qE ⟨#[]⟩ 0 t)))/\q=star (yI V pb txg root live l sa scap ra rcap (some ⟨bk,0,none⟩) none ow bk sb N' F' ms' es'):=by
 refine Tq.of λ W h B0=>?_
 have B:=B0.flat;simp only [yI,List.cons_append,List.nil_append]at B;clear B0
 have hdn:V.ds.length<=100:=by
  haveI:=Z0 (i:=4) B rfl;exact(Zo V F W).1.le
 have MB:=λ(w:World) (_:Zy 15 sa l.length scap (Ye l) w) (_:Zy 2 ra V.ds.length rcap (YU V.ds.length) w)=>ZeP live sa scap l V.ds.length ra rcap hl hdn hd hi w
 have hms:=ZaJ live l V.ds.length hd;rw [hmt]at MB hms;clear hmt;have PS:=λ(w:World) (_:Zh w pb (X7 V txg root live (.slice sa l.length scap) (.slice ra V.ds.length rcap) (pV bk) (.pointer none) (.pointer ow)))=>zx V pb bk txg (txg+1) 0 rfl (by omega) root live _ _ _ _ w
 have r1:=(Yo B (i:=1) rfl).1;have r2:=(Yo B (i:=2) rfl).1
 go_in
 go_wp2_with((with_reducible apply Za);(·exact rfl);(·exact ii));refine(MB _ ii ii).mono ?_;rintro e w1 ⟨rfl,g,rfl⟩;clear MB r1 r2;dsimp only;go_wp2_with fail;refine(PS _ ii).mono ?_;rintro e w2 ⟨st,rfl,hg,hn⟩;have B1:=Bt.join (W:=W) (h:=h) (l:=[_,Zd pb (X7 V txg root live (.slice sa l.length scap) (.slice ra V.ds.length rcap) (pV bk) (.pointer none) (.pointer ow)) 82,Zw 125 15 sa l.length scap (Ye l),Zw 92 2 ra V.ds.length rcap (YU V.ds.length),ZV bk sb V.secs ms es,ZE V N F,X9 sb]) ii hg hn;clear hg hn B PS;dsimp only;have B2:=B1.more (p:=Ul (.pointer none) C) (.inl ⟨rfl,hC9⟩);have B3:=Bt.oS (B2) [0,8,6,7,5,1,2,3,4];have B4:Bt W h (Qe V st bk sb (txg+1) 0 false K C::_) w2:=(B3.app [_,_,_,_,_]).head λ h s=>⟨_,N,F,ms,es,ok,s⟩
 clear B1 B2 B3;have AT:=Zg2 (V:=V) (st:=st) (bb:=bk) (sb:=sb) (txg:=txg+1) (keep:=0) (meta_:=false) K C;go_wp2_with fail;refine(Bt.call AT).mono ?_;rintro e w3 ⟨v,q,rfl,⟨st2,rfl,rfl⟩,B5⟩;clear B4 AT;dsimp only;have T2:=Qn (V:=V) (st:=st2) (bb:=bk) (sb:=sb) (txg:=txg+1) (keep:=0) (meta_:=true) (by omega) (by omega);have TW:=Zgv T2 K C (m:=Nd.none) (t:=⟨#[]⟩) ⟨_,Ob.none K,rfl⟩ 0 t (by omega) hC;clear hms T2;go_wp2_with(with_reducible apply Zj);refine(Bt.call TW).mono ?_;rintro e w4 ⟨v,q,rfl,hR,B6⟩;clear B5 TW;dsimp only
 have hR':∃(n':Nd)(e:Int)(K':KS),v=.tuple #[.agg n'.cs,.int .i64 e]/\q=Qe V st2 bk sb (txg+1) 0 true K' (C-70000)/\K.le K'/\(e=0->yG K' n' (qE ⟨#[]⟩ 0 t)):=by
  rcases hR with ⟨e,he,rfl,rfl⟩|⟨p,K',rfl,rfl,hK,o,h1,h2,h3⟩
  ·exact⟨Nd.none,e,K,rfl,rfl,KS.le.refl K,λ h=>absurd h he⟩
  ·obtain rfl:o=0:=by omega
   exact⟨p,0,K',rfl,rfl,hK,λ _=>h3⟩
 obtain⟨n',e,K',rfl,rfl,hK,ho⟩:=hR';have HO:=Lib.hid ho;clear hR ho;go_wp2_with((with_reducible apply Zb);(·exact rfl);(·exact rfl);(·exact ii))
 (refine bodyPost_ret (YR rfl _ _ _ _ rfl ii) rfl ?_)
 refine XE (W:=W) (h:=h) (l:=[Qe V st2 bk sb (txg+1) 0 true K' (C-70000),Zd W.heap.size _ 52,Zd pb (X7 V txg root live (.slice sa l.length scap) (.slice ra V.ds.length rcap) (pV bk) (.pointer none) (.pointer ow)) 82,Zw 125 15 sa l.length scap (Ye l),Zw 92 2 ra V.ds.length rcap (YU V.ds.length)]) ii λ w9 B9=>?_
 obtain⟨dn,N',F',ms',es',ok',B10⟩:=B9.opn;have B11:=Bt.oS (B10) [6,7,8,4,2,3,0,1,5];exact⟨_,⟨n',e,K',N',F',ms',es',rfl,⟨ok',hK,HO.out⟩,rfl⟩,(B11.app [_,_,_,_,_,_]).fin_at 0 rfl⟩
end
section
variable{ops:Array Oper}{rest:List Oper}{Q:Exit->Act->World->Prop}{a:Act}{w:World}{d:Option Tmp}{pos:String}{aft:Array Edge}
theorem ZN{ts e:TypeId}{z by_:Nat}[k:Jl ts e z by_]{x y:Operand}{W1:World}{h0:Hl}{l:List SP}{kf:SP->List SP}{ad ad2:Option Addr}{n cap m c:Nat}{L ys:List (List Value)}(B:Bt W1 h0 l w)(hx:a.eval x=.slice ad n cap)(hy:a.eval y=.slice ad2 m c)
  (he:ZgS l e z ad n cap L kf) (hr:Zy z ad2 m c ys w) (h0':ad2=none->c=0) (hz:∀ y∈ys,y.length=z) (h1:∀ y∈ys,∀ u∈y,u.oneCell'=true) (hn:n+m<=1000000000) (hb:by_<=1000)
  (h:∀ ad' cap' w',Bt W1 h0 (kf (Zw e z ad' (n+m) cap' (L++ys))) w'->wpList Tryz.prog ops Q rest (a.put d (.slice ad' (n+m) cap')) w') :
  wpList Tryz.prog ops Q ({ dst:=d,op:=.call { callee:=.builtin .append,args:=#[x,y],argTypes:=#[ts,ts] },type:=ts,pos:=pos,after:=aft,guard:=none }::rest) a w:=by
 obtain⟨i,hi,hk⟩:=he.e;obtain⟨m',h1',j,x',s⟩:=B.t;obtain⟨h0,p0,s0,cc⟩:=s.focus hi;haveI:=j.sub s0;cases ad2 with
 |none =>
  obtain rfl:c=0:=h0' rfl
  have hm:ys=[]:=by
   cases ys with
   |nil=>rfl
   |cons y ys =>
    obtain⟨b,o,e,_⟩:=hr.cells 0 y rfl;cases e
  subst hm;have hm0:m=0:=hr.len.symm;subst hm0;obtain⟨ii,zr,hi',hz0,hz1,hz2,hz3⟩:=Jl.el (ts:=ts) (e:=e) (z:=z) (by_:=by_);have ksl:=Jl.sl (ts:=ts) (e:=e) (z:=z) (by_:=by_);have hown:=p0.own w;refine ZP rfl _ _ _ _ rfl _ _ hx hy (run_append_owned_none (P:=Tryz.prog) w 0 ts _ e ii z ksl hi' _ n _ hown) ?_;have e1:L++[]=L:=List.append_nil L;refine h ad cap w ?_;rw [hk,e1,Nat.add_zero];have:l.set i (Zw e z ad n cap L)=l:=set_self hi;rw [this];exact B
 |some a2 =>
  obtain⟨ad',cap',W',hr',T⟩:=ZgI (ts:=ts) p0 w hr hz h1 hn hb;refine ZP rfl _ _ _ _ rfl _ _ hx hy (hr' _) (h ad' cap' W' ?_);rw [hk];exact⟨Zg.after m' x' ((T.frame j s0).mono λ h' ⟨h1,q1,q2,q3⟩=>cc _ h1 h' q1 q2 q3)⟩
end
theorem Zkt(X:List Pt):∀ y∈Y8 X,y.length=12:=by intro y hy;obtain⟨_,_,rfl⟩:=List.mem_map.1 hy;rfl
theorem Zdb(X:List Pt):∀ y∈Y8 X,∀ u∈y,u.oneCell'=true:=by
 intro y hy u hu;obtain⟨p,_,rfl⟩:=List.mem_map.1 hy;simp only [Pt.cs,List.mem_cons,List.not_mem_nil,or_false]at hu;rcases hu with rfl|rfl|rfl|rfl|rfl|rfl|rfl|rfl|rfl|rfl|rfl|rfl<;>rfl
theorem Zdy(X Y:List Pt):Y8 X++Y8 Y=Y8 (X++Y):=by simp [Y8]
def jF(K:KS)(X:List Pt):Prop:=∀ q∈X,q.isNone=false/\∃ t,K q t
theorem jF.app{K:KS}{X Y:List Pt}(a:jF K X)(b:jF K Y):jF K (X++Y):=λ q hq=>by
 rcases List.mem_append.1 hq with h|h
 ·exact a q h
 ·exact b q h
theorem ZjU{K:KS}{X Y:List Pt}:(K.on X).le (K.on (X++Y)):=KS.on_le λ q hq=>List.mem_append_left _ hq
theorem Zmh{K:KS}{X Y:List Pt}:(K.on Y).le (K.on (X++Y)):=KS.on_le λ q hq=>List.mem_append_right _ hq
section
variable{st:Nat}{S:KS->Nat->SP}(T:VT st S)
include T
theorem Zj3(K:KS)(c:Nat){n:Nd}{Td:Yt}(dt:jX K n Td):Tq 129 #[Jv st,.agg n.cs] (S K c) λ v q=>∃(X:List Pt)(ad:Option Addr)(cap:Nat),v=.tuple #[.slice ad X.length cap,.int .i64 0]/\(X.length<=3000/\jF K X/\jX (K.on X) n Td)/\q=star [S K c,Zw 50 12 ad X.length cap (Y8 X)]:=by
 obtain⟨D,dr,hD⟩:=dt;obtain⟨g,o,hg,hf⟩:=id dr;have A0:=ZcI T K c o;have L0:=ZaS T K c dr;obtain⟨ids,hids⟩:∃ ids,XC D 32=ids:=⟨_,rfl⟩
 have hlen:ids.length<=32:=by rw [<-hids];exact Vk D 32
 have hmem:∀ id∈ids,id<32/\(D id).isSome=true:=λ id hi=>by
  rw [<-hids]at hi;simpa [XC]using hi
 have hall:∀ id,id<32->(D id).isSome=true->id∈ids:=λ id h1 h2=>by
  rw [<-hids];simp [XC,h1,h2]
 rw [hids]at L0;have hlv:=Ks n.size;have RD:=λ id hid=>kn T K c dr id hid
 have Hdr:=Lib.hid dr;have Hg:=Lib.hid hg;have Hf:=Lib.hid hf;have Hall:=Lib.hid hall;have Ho:=Lib.hid o;clear hids dr hg hf hall o;refine Tq.of λ W h B=>?_
 go_in
 go_wp2_with((with_reducible apply Za);(·exact rfl);(·exact ii));refine(Bt.call A0).mono ?_;rintro e w1 ⟨v,q,rfl,⟨X0,ad0,cap0,⟨rfl,rfl⟩,hX0⟩,B1⟩;clear B A0;dsimp only;have HX0:=Lib.hid hX0;clear hX0;have B2:=Bt.oS (B1) [1,0];have B3:=B2.flat;clear B1 B2;simp only [List.cons_append,List.nil_append]at B3;go_wp2_with((with_reducible apply Za);(·exact rfl);(·exact ii));refine(Bt.call L0).mono ?_;rintro e w2 ⟨v,q,rfl,⟨adi,capi,rfl,rfl⟩,B4⟩;clear B3 L0;dsimp only;have B6:=Bt.oS (B4.flat) [3,0,1,2];clear B4;go_wp2_with fail
 go_loopw [6,35] (λ ov iv wr=>∃(k:Nat)(X:List Pt)(ad:Option Addr)(cap:Nat),k<=ids.length/\iv=.int .i64 k/\ov=.slice ad X.length cap/\(X.length<=85*(k+1)/\jF K X/\(K.on X0).le (K.on X)/\∀ j id m,j<k->ids[j]?=some id->D id=some m->∃ t,Td id=some t/\yG (K.on X) m t) /\
   Bt W h [Zd W.heap.size n.cs 52,S K c,Zw 3 1 adi ids.length capi (KG ids),Zw 50 12 ad X.length cap (Y8 X)] wr)
  (λ _ iv _=>ids.length-(intOf iv).toNat)
 case atStart =>
  refine⟨0,X0,ad0,cap0,Nat.zero_le _,rfl,rfl,⟨?_,HX0.out.2.1,KS.le.refl _,λ j id m h=>absurd h (by omega)⟩,B6⟩;have h1:=HX0.out.1;have h2:=ZcT (n:=(zN n.size).toNat) (by omega);omega
 case round =>
  clear B6;obtain⟨k,X,ad,cap,hk,rfl,rfl,⟨hX1,hX2,hX3,hX4⟩,B⟩:=hrel
  by_cases hlt:k<ids.length
  ·obtain⟨id,hid⟩:∃ id,ids[k]?=some id:=⟨_,List.getElem?_eq_getElem hlt⟩
   obtain⟨hi32,his⟩:=hmem id (List.mem_of_getElem? hid);obtain⟨m,hm⟩:∃ m,D id=some m:=Option.isSome_iff_exists.1 his;obtain⟨t,hTt,g',o',ht⟩:=(hD id hi32).1 m hm;have RD1:=RD id hi32;rw [hm]at RD1;simp only [Option.getD_some,Option.isSome]at RD1;have A1:=ZcI T K c o';have hlv':=Ks m.size;obtain⟨b,off,rfl,hb,hc⟩:=(Yo B (i:=2) rfl).1.cells k [.int .i64 (id:Int)] (by simp [KG,hid]);have c0:=hc 0 _ rfl;rw [Nat.add_zero,Nat.mul_one]at c0;have Hid':=Lib.hid hid;have Hm:=Lib.hid hm;have Ho':=Lib.hid o';have Ht:=Lib.hid ht;have H2:=Lib.hid hX2;have H3:=Lib.hid hX3;have H4:=Lib.hid hX4;clear hc hid hm his o' ht hX2 hX3 hX4 RD hmem hD;go_wp2_with((with_reducible apply Za);(·exact rfl);(·exact ii));refine(Bt.call RD1).mono ?_;rintro e w3 ⟨v,q,rfl,⟨rfl,rfl⟩,B1⟩;clear B RD1;dsimp only;go_wp2_with(first|((with_reducible apply Za);(·exact rfl);(·exact ii))|((with_reducible apply Zb);(·exact rfl);(·exact rfl);(·exact ii)));refine(Bt.call A1).mono ?_;rintro e w4 ⟨v,q,rfl,⟨Y,ad2,cap2,⟨rfl,rfl⟩,hY⟩,B2⟩;clear B1 A1;dsimp only;have HY:=Lib.hid hY;clear hY;have B3:=Bt.oS (B2) [2,0,1,3,4];have B4:=B3.flat;clear B2 B3;simp only [List.cons_append,List.nil_append]at B4
   have hYl:Y.length<=85:=by
    have h1:=HY.out.1;have h2:=ZcT (n:=(zN m.size).toNat) (by omega);omega
   have rY:=Yo B4 (i:=1) rfl;have hXY:X.length+Y.length<=1000000000:=by omega
   go_wp2_with(at_builtin;(refine ZN (ts:=149) B4 rfl rfl ii rY.1 rY.2.2 (Zkt Y) (Zdb Y) hXY (by decide) ?_);intro adA capA wA bA);rw [Zdy,<- List.length_append]at bA;refine⟨⟨k+1,X++Y,adA,capA,hlt,by go_num,by rw [List.length_append],⟨by rw [List.length_append];omega,H2.out.app HY.out.2.1,H3.out.trans ZjU,λ j id' m' hj hid' hm'=>?_⟩,?_⟩,by simp [intOf];omega⟩
   ·rcases Nat.lt_or_ge j k with h|h
    ·obtain⟨t2,h1,h2⟩:=H4.out j id' m' h hid' hm';exact⟨_,h1,h2.mono ZjU⟩
    ·obtain rfl:j=k:=by omega
     have e1:id'=id:=by have:=Hid'.out;rw [this]at hid';exact(Option.some.inj hid').symm
     subst e1;have e2:m'=m:=by have:=Hm.out;rw [this]at hm';exact(Option.some.inj hm').symm
     subst e2;have tr:Tr (K.on Y) (zN m'.size).toNat m'.root g':=HY.out.2.2;exact⟨t,hTt,g',⟨Ho'.out.sz,tr.mono Zmh,Ho'.out.z⟩,Ht.out⟩
   ·have B5:=Bt.oS (bA) [1,2,3,0,4,5];exact B5.drop.drop
  ·obtain rfl:ids.length=k:=by omega
   have H2:=Lib.hid hX2;have H3:=Lib.hid hX3;have H4:=Lib.hid hX4;clear hX2 hX3 hX4;go_wp2_with fail;go_ret2;have o:=Ho.out;have tr:Tr (K.on X0) (zN n.size).toNat n.root g:=HX0.out.2.2;have dr':Dr (K.on X) n D:=⟨g,⟨o.sz,tr.mono H3.out,o.z⟩,Hg.out,Hf.out⟩
   have dt:jX (K.on X) n Td:=⟨D,dr',λ id hid=>⟨λ m hm=>by
    obtain⟨j,hj⟩:=List.getElem?_of_mem (Hall.out id hid (by rw [hm];rfl))
    exact H4.out j id m (List.getElem?_eq_some_iff.1 hj).1 hj hm,(hD id hid).2⟩⟩
   have B5:=Bt.oS (B) [1,3,0,2];exact⟨_,_,rfl,⟨X,ad,cap,rfl,⟨by omega,H2.out,dt⟩,rfl⟩,(B5.app [_,_]).fin_at 0 rfl⟩
end
end Go.Proofs.YtlfjdjndhcmliaaGreatDoor
