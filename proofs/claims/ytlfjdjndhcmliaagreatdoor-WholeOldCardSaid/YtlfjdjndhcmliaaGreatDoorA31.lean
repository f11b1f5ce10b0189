/- WholeOld, part 31. -/
import Derived.Test.YtlfjdjndhcmliaaGreatDoorA30
import Derived.Test.YtlfjdjndhcmliaaGreatDoorA00
import Derived.Test.YtlfjdjndhcmliaaGreatDoorA29
import Derived.LaidEqlPtr
set_option maxRecDepth 100000
set_option maxHeartbeats 4000000
set_option linter.all false
namespace Go.Proofs.YtlfjdjndhcmliaaGreatDoor
open Go.RowKit Go.Sort
structure ZgG(s:ZO)(secs:Int)(l:List Sn):Prop where
 len:l.length<=4
 id:∀ x∈l,0<=x.id/\x.id<=99
 txg:∀ x∈l,1<=x.txg/\x.txg<=4294967295
 dir:∀ x∈l,KH s secs x.dir
 up:∀(k:Nat)(x y:Sn),l[k]?=some x->l[k+1]?=some y->x.txg<=y.txg
 ne:∀(j k:Nat)(x y:Sn),l[j]?=some x->l[k]?=some y->j<k->x.id≠y.id
instance(priority:=low) ZlM(W:World)(n:Nat)(cs:Array Value)(t:TypeId)[k:ZX W n]:Zh (W.alloc (.cells cs t)) n cs:=by
 have h:=k.h;subst h;exact⟨t,alloc_heap_new ..⟩
section
variable(s:ZO)(secs:Int)(W:World)[k:Ky s secs][m:GM s W](live:Nd)(ad:Option Addr)(cap:Nat)(l:List Sn)(st:Value)[R:Zy 15 ad l.length cap (Ye l) W]
include k m R
theorem ZgM(ok:ZgG s secs l)(hcap:l.length<=cap):Fn 146 #[.agg #[.slice s.ad s.len s.cap,.int .i64 secs],.slice ad l.length cap] W (.bool true):=by
 refine⟨?_⟩;have NR:∀(n:Nd)(w:World),GM s w->KH s secs n->Fn 145 #[.agg #[.slice s.ad s.len s.cap,.int .i64 secs],.agg n.cs] w (.bool true):=λ n w _ h=>jr s secs w n h
 have CF:∀(i:Nat)(x:Sn)(b:Nat)(w:World),l[i]?=some x->Zh w b x.cs.toArray->Zy 15 ad l.length cap (Ye l) w->Fn 210 #[.slice ad i cap,.func (.func 211) #[] #[.pointer (some ⟨b,0,none⟩)]] w (.bool false):=λ i x b w hi hb hr=>by
  have hil:i<l.length:=(List.getElem?_eq_some_iff.1 hi).1;have hl4:=ok.len;haveI:=hr.takeR i cap (by omega)
  have e:((Ye l).take i).any (λ y=>intOf (y.headD undef)==x.id)=false:=by
   rw [List.any_eq_false];intro y hy;obtain⟨j,hj,hjy⟩:=List.getElem_of_mem hy;have hj':j<i:=by simp at hj;omega
   have hlj:l[j]?=some l[j]:=List.getElem?_eq_getElem (by omega);have:=ok.ne j i _ _ hlj hi hj';rw [List.getElem_take]at hjy;simp only [Ye,List.getElem_map]at hjy;rw [<-hjy];simpa [Sn.cs,intOf]using this
  rw [<-e];refine cfN ad i cap ((Ye l).take i) w (by omega) 211 (by kernel_rfl) #[.pointer (some ⟨b,0,none⟩)] _ (λ y hy g=>?_) (λ y hy=>ZdO l y (List.mem_of_mem_take hy));obtain⟨y,hy,rfl⟩:=List.mem_map.1 (List.mem_of_mem_take hy);have hcs:y.cs.toArray=#[.int .i64 y.id,.int .i64 y.txg,.int .i64 y.dir.size,.int .i64 y.dir.root.ag,.int .i64 y.dir.root.aa,.int .i64 y.dir.root.bg,.int .i64 y.dir.root.ba,.bool y.dir.root.two,.int .i64 y.dir.root.size,.int .i64 y.dir.root.level,.int .i64 y.dir.root.birth,.int .u64 y.dir.root.sum.a,.int .u64 y.dir.root.sum.b,.int .u64 y.dir.root.sum.c,.int .u64 y.dir.root.sum.d]:=rfl;rw [hcs];have hci:Zh (gr w g) b x.cs.toArray:=ii;have hc':(gr w g).cell? ⟨b,0,none⟩=some (.int .i64 x.id):=by rw [YO _ b 0 x.cs.toArray];rfl
  haveI:Yc b (gr w g):=Zh.old hci;clear hci hb;generalize gr w g=w2 at *
  go_in
  go_wp2_with fail;go_ret;exact ZM.mk (by simp [Sn.cs,intOf]) grown
 have hl4:=ok.len
 go_in
 go_wp2_with fail
 go_loopw [9] (λ i wr=>∃ k:Nat,k<=l.length/\i=.int .i64 k/\∃ g,wr=gr (W.alloc (.cells #[.slice s.ad s.len s.cap,.int .i64 secs] 24)) g) (λ i _=>l.length-(intOf i).toNat)
 case atStart=>exact⟨0,Nat.zero_le _,rfl,Y1 _⟩
 case round =>
  obtain⟨k,hk,rfl,g,rfl⟩:=hrel
  by_cases hlt:k<l.length
  ·obtain⟨x,hx⟩:∃ x,l[k]?=some x:=⟨_,List.getElem?_eq_getElem hlt⟩
   have hxm:=List.mem_of_getElem? hx;have hcs:x.cs.toArray=#[.int .i64 x.id,.int .i64 x.txg,.int .i64 x.dir.size,.int .i64 x.dir.root.ag,.int .i64 x.dir.root.aa,.int .i64 x.dir.root.bg,.int .i64 x.dir.root.ba,.bool x.dir.root.two,.int .i64 x.dir.root.size,.int .i64 x.dir.root.level,.int .i64 x.dir.root.birth,.int .u64 x.dir.root.sum.a,.int .u64 x.dir.root.sum.b,.int .u64 x.dir.root.sum.c,.int .u64 x.dir.root.sum.d]:=rfl;have CX:=λ b w=>CF k x b w hx
   rw [hcs]at CX;have i1:=ok.id x hxm;have t1:=ok.txg x hxm;have NX:∀ w,[GM s w]->Fn 145 #[.agg #[.slice s.ad s.len s.cap,.int .i64 secs],.agg #[.int .i64 x.dir.size,.int .i64 x.dir.root.ag,.int .i64 x.dir.root.aa,.int .i64 x.dir.root.bg,.int .i64 x.dir.root.ba,.bool x.dir.root.two,.int .i64 x.dir.root.size,.int .i64 x.dir.root.level,.int .i64 x.dir.root.birth,.int .u64 x.dir.root.sum.a,.int .u64 x.dir.root.sum.b,.int .u64 x.dir.root.sum.c,.int .u64 x.dir.root.sum.d]] w (.bool true):=λ w _=>NR x.dir w ‹_› (ok.dir x hxm)
   have CI:∀ b w,[Zh w b #[.int .i64 x.id,.int .i64 x.txg,.int .i64 x.dir.size,.int .i64 x.dir.root.ag,.int .i64 x.dir.root.aa,.int .i64 x.dir.root.bg,.int .i64 x.dir.root.ba,.bool x.dir.root.two,.int .i64 x.dir.root.size,.int .i64 x.dir.root.level,.int .i64 x.dir.root.birth,.int .u64 x.dir.root.sum.a,.int .u64 x.dir.root.sum.b,.int .u64 x.dir.root.sum.c,.int .u64 x.dir.root.sum.d]]->[Zy 15 ad l.length cap (Ye l) w]->Fn 210 #[.slice ad k cap,.func (.func 211) #[] #[.pointer (some ⟨b,0,none⟩)]] w (.bool false):=λ b w c r=>CX b w c r
   clear CF NR CX;have e1:decide (x.txg<1)=false:=decide_eq_false (by omega);have e2:decide (4294967295<x.txg)=false:=decide_eq_false (by omega);obtain⟨b,o,rfl,hob,hoc⟩:=R.cells k x.cs (by simp [Ye,hx]);haveI:ZJ b (o+k*15) x.cs.toArray 15 W:=⟨rfl,hob,λ j v e=>hoc j v e⟩
   rw [hcs]at this;have hkc:k<=cap:=by omega
   clear hoc hcs
   have hpre:(decide (0<k)=false)\/∃ j y,k=j+1/\l[j]?=some y/\W.cell? ⟨b,o+j*15+1,none⟩=some (.int .i64 y.txg)/\decide (x.txg<y.txg)=false:=by
    rcases Nat.eq_zero_or_pos k with h|h
    ·exact .inl (decide_eq_false (by omega))
    ·obtain⟨j,rfl⟩:∃ j,k=j+1:=⟨k-1,by omega⟩
     obtain⟨y,hy⟩:∃ y,l[j]?=some y:=⟨_,List.getElem?_eq_getElem (by omega)⟩
     obtain⟨b',o',e,_,hc⟩:=R.cells j y.cs (by simp [Ye,hy]);cases e;exact .inr ⟨j,y,rfl,hy,hc 1 _ rfl,decide_eq_false (by have:=ok.up j y x hy hx;omega)⟩
   have Hpre:=Lib.hid hpre;clear hpre;go_wp2_with(first|(with_reducible refine Fn.go λ g=>?_)|((with_reducible apply Za);(·exact rfl);(·exact ii))|((with_reducible apply Z2);(·exact rfl);(·exact rfl);(·exact ii))|((with_reducible apply Zb);(·exact rfl);(·exact rfl);(·exact ii)));refine plZ (.q [0,1,2,3,4,5,6,7,8,9,10,11,12,13,14,15,16,17] (.x [18] (.q [19] .d))) ?_;simp only [Zk.run,pick,gZ,gS,gA,gN];rcases Hpre.out with e0|⟨j,y,rfl,hy,hc1,e3⟩
   ·(repeat go_big_quiet_step (exact qZ));refine nZ ?_
    rintro w3 ⟨g3,rfl⟩;go_wp2_with(with_reducible refine Fn.go λ g=>?_);dsimp only [Nx]
    (repeat go_big_quiet_step (exact qZ));refine nZ ?_
    rintro w5 hw5;obtain⟨g5,rfl⟩:=hw5;go_wp2_with fail;simp only [ZK,ZW];exact⟨⟨k+1,hlt,by go_num,_,rfl⟩,by simp [intOf];omega⟩
   ·(repeat go_big_quiet_step (exact qZ));refine nZ ?_
    rintro w3 ⟨g3,rfl⟩;go_wp2_with(with_reducible refine Fn.go λ g=>?_);dsimp only [Nx]
    (repeat go_big_quiet_step (exact qZ));refine nZ ?_
    rintro w5 hw5;obtain⟨g5,rfl⟩:=hw5;go_wp2_with fail;simp only [ZK,ZW];exact⟨⟨j+1+1,hlt,by go_num,_,rfl⟩,by simp [intOf];omega⟩
  ·obtain rfl:l.length=k:=by omega
   go_wp2_with fail;go_ret;exact ZM.mk (by simp;omega) grown
end
set_option maxRecDepth 512 in
theorem Zch(W:World):Calls Tryz.prog 113 #[.agg #[.int .i64 0,.int .i64 0,.int .i64 0,.int .i64 0,.int .i64 0,.int .i64 0,.int .i64 0,.int .i64 0,.int .i64 0]] W λ e w'=>∃ b,e=.returned (.slice (some ⟨b,0,none⟩) 9 9)/\Zy 1 (some ⟨b,0,none⟩) 9 9 (List.replicate 9 [.int .i64 0]) w'/\∃ g,w'=gr W g:=by
 go_in
 go_wp2_with fail;go_ret;refine⟨_,rfl,?_,Zf grown⟩;rw [<-World.size_alloc (w:=W)];exact Vy (z:=1) (xs:=List.replicate 9 [.int .i64 0]) rfl rfl (by simp)
set_option maxRecDepth 512 in
theorem ZjZ(W:World):Calls Tryz.prog 148 #[.int .i64 0] W (ZM (.bool false) W):=by
 go_in
 go_wp2_with(with_reducible refine Fn.go λ g=>?_);go_ret;exact ZM.mk rfl grown
set_option maxRecDepth 512 in
theorem Zi9(W:World):Calls Tryz.prog 151 #[.agg #[.int .i64 0,.int .i64 0]] W (ZM (.bool false) W):=by
 go_in
 go_wp2_with(with_reducible refine Fn.go λ g=>?_);go_ret;exact ZM.mk rfl grown
set_option maxRecDepth 512 in
theorem U6(s:ZO)(secs:Int)(W:World)[k:Ky s secs][m:GM s W](live:Nd)(ad:Option Addr)(cap:Nat)(l:List Sn)[R:Zy 15 ad l.length cap (Ye l) W](n:Nat)(ad2:Option Addr)(cap2:Nat)[R2:Zy 2 ad2 n cap2 (YU n) W]
  (ok:ZgG s secs l) (hcap:l.length<=cap) (hlive:KH s secs live) (hn:YB s s.len=n) :
  Fn 84 #[.agg #[.slice s.ad s.len s.cap,.int .i64 secs],.agg (mC live (.slice ad l.length cap) (.slice ad2 n cap2))] W (.bool true):=by
 refine⟨?_⟩;have hn100:n<=100:=by have:=XA k.h s.len (Nat.le_refl _);have:=k.h.2.1;omega
 have NR:∀ w,[GM s w]->Fn 145 #[.agg #[.slice s.ad s.len s.cap,.int .i64 secs],.agg #[.int .i64 live.size,.int .i64 live.root.ag,.int .i64 live.root.aa,.int .i64 live.root.bg,.int .i64 live.root.ba,.bool live.root.two,.int .i64 live.root.size,.int .i64 live.root.level,.int .i64 live.root.birth,.int .u64 live.root.sum.a,.int .u64 live.root.sum.b,.int .u64 live.root.sum.c,.int .u64 live.root.sum.d]] w (.bool true):=λ w _=>jr s secs w live hlive
 have SF:∀ w,[GM s w]->[Zy 15 ad l.length cap (Ye l) w]->Fn 146 #[.agg #[.slice s.ad s.len s.cap,.int .i64 secs],.slice ad l.length cap] w (.bool true):=λ w _ _=>ZgM s secs w ad cap l ok hcap
 have DV:∀ w,[GM s w]->Fn 42 #[.agg #[.slice s.ad s.len s.cap,.int .i64 secs]] w (.int .i64 n):=λ w _=>by rw [<-hn];infer_instance
 have C1:∀ b w,[Zy 1 (some ⟨b,0,none⟩) 9 9 (List.replicate 9 [.int .i64 0]) w]->Fn 147 #[.slice (some ⟨b,0,none⟩) 9 9,.func (.func 148) #[] #[]] w (.bool false):=λ b w _ =>
  cfI (some ⟨b,0,none⟩) 9 9 (List.replicate 9 [.int .i64 0]) w (by omega) 148 (by kernel_rfl) #[] (λ _=>false) (λ x hx g=>by
   have e:=(List.mem_replicate.1 hx).2;cases e
   exact ZjZ _) (by simp)
 have C2:∀ w,[Zy 2 ad2 n cap2 (YU n) w]->Fn 150 #[.slice ad2 n cap2,.func (.func 151) #[] #[]] w (.bool false):=λ w _=>by
  have:=cfR ad2 n cap2 (YU n) w (by omega) 151 (by kernel_rfl) #[] (λ _=>false) (λ x hx g=>by
   rw [(List.mem_replicate.1 hx).2]
   exact Zi9 _) (Zdx n)
  rw [show ((YU n).any λ _=>false)=false by simp]at this;exact this
 clear ok hcap hlive hn
 go_in
 go_wp2_with fail;refine plZ (.q [0,1,2,3,4,5,6,7,8,9,10,11,12,13,14,15,16,17,18,19,20,21,22,23,24,25,26,27,28,29,30] .d) ?_;simp only [Zk.run,pick,gZ,gS,gA,gN]
 (repeat go_big_quiet_step (exact qZ));refine nZ ?_
 rintro w1 ⟨g1,rfl⟩;go_wp2_with((with_reducible apply Za);(·exact rfl);(·exact ii));refine(Zch _).mono ?_;rintro e w2 ⟨b,rfl,R9,g2,rfl⟩;rw [ZW]at R9;dsimp only;go_wp2_with(with_reducible refine Fn.go λ g=>?_);go_ret;exact ZM.mk rfl grown
end Go.Proofs.YtlfjdjndhcmliaaGreatDoor
namespace Go.Proofs.YtlfjdjndhcmliaaGreatDoor
open Go.RowKit Go.Sort Go.ChangeShapes Go.WideShapes Go.Joins
def Xh(s:ZO)(secs:Int):Nat->ByteArray
 |0=>Qp s.len 4++Qp secs 4
 |k+1=>Xh s secs k++(Qp (s.x k) 4++Qp (s.y k) 4)
@[go_sem] theorem jy (s:ZO) (secs:Int) (k:Nat):(Xh s secs k).size=8+8*k:=by
 induction k with
 |zero=>simp [Xh,ByteArray.size_append,ZF]
 |succ k ih=>simp only [Xh,ByteArray.size_append,ZF,ih];omega
set_option maxRecDepth 512 in
theorem Ze3{s:ZO}{secs:Int}(h:ZT s secs)(w:World)[m:GM s w] :
  Calls Tryz.prog 123 #[.agg #[.slice s.ad s.len s.cap,.int .i64 secs]] w (ZM (.string (Xh s secs s.len)) w):=by
 have HR:=Lib.hid (λ(w:World) [GM s w]=>QR h w);have hl:=h.2.1;have h3:=h.2.2.1;have h4:=h.2.2.2.1;have HG:=Lib.hid h;clear h
 go_in
 go_wp2_with(go_at_call 13;with_reducible refine(Calls.at (HR.out _)).mono ?_;rintro e w' ⟨rfl,g,rfl⟩);have c1:=j8 (s.len:Int) (by omega) (by omega);have c2:=j8 secs (by omega) (by omega);refine yf (by kernel_rfl) (by kernel_rfl) ?_
 repeat(go_big_quiet_step (first|(with_reducible exact c1.inClass _ _)|(with_reducible exact c2.inClass _ _)))
 refine wpQuiet_nil ?_;rintro _ ⟨g2,rfl⟩;go_wp2_with fail
 go_loopw [3,20] (λ v i wr=>∃ k:Nat,k<=s.len/\i=.int .i64 k/\v=.string (Xh s secs k)/\∃ g':Gr,wr=gr (w.alloc (.cells #[.slice s.ad s.len s.cap,.int .i64 secs] 24)) g')
  (λ _ i _=>s.len-(intOf i).toNat)
 case atStart=>exact⟨0,Nat.zero_le _,rfl,rfl,_,rfl⟩
 case round =>
  obtain⟨k,hk,rfl,rfl,g',rfl⟩:=hrel
  by_cases hlt:k<s.len
  ·have hcx:=m.c0 k hlt;have hcy:=m.c1 k hlt;have hix:=K5 m hlt;haveI hbo:=m.isOld hlt;have hw:=Yk HG.out hlt;have c3:=j8 (s.x k) (by omega) (by omega);have c4:=j8 (s.y k) (by omega) (by omega);clear c1 c2;have hwx:=Lib.hid hw.2.2;have hw1:=hw.1;have hw2:=hw.2.1;clear hw;go_wp2_with fail;refine QN (by kernel_rfl) (by kernel_rfl) ?_
   repeat(go_big_quiet_step (first|(with_reducible exact c3.inClass _ _)|(with_reducible exact c4.inClass _ _)))
   refine wpQuiet_nil ?_;rintro _ ⟨g5,rfl⟩;go_wp2_with fail
   go_roundw
   case rel=>exact⟨k+1,by omega,by go_num,rfl,Zas _ _ _ _⟩
   case measure=>simp [intOf];omega
  ·obtain rfl:s.len=k:=by omega
   go_wp2_with fail;go_ret;exact ZM.mk rfl grown
instance ZlS(s:ZO)(secs:Int)(W:World)[k:Ky s secs][m:GM s W]:Fn 123 #[.agg #[.slice s.ad s.len s.cap,.int .i64 secs]] W (.string (Xh s secs s.len)):=⟨Ze3 k.h W⟩
abbrev Jn(txg:Int)(n:Nd):Array Value:=#[.int .i64 txg,.int .i64 n.size,.int .i64 n.root.ag,.int .i64 n.root.aa,.int .i64 n.root.bg,.int .i64 n.root.ba,.bool n.root.two,.int .i64 n.root.size,.int .i64 n.root.level,.int .i64 n.root.birth,.int .u64 n.root.sum.a,.int .u64 n.root.sum.b,.int .u64 n.root.sum.c,.int .u64 n.root.sum.d]
def qW:ByteArray:=⟨#[112,111,108,100,101,114,48,49]⟩
def ubR(s:ZO)(secs txg:Int)(n:Nd):ByteArray:=qW++XL txg++bs (Yh (Xh s secs s.len)) 4++n.bytes
def ubH(s:ZO)(secs txg:Int)(n:Nd):ByteArray:=QG (ubR s secs txg n) 224
def ubS(s:ZO)(secs txg:Int)(n:Nd):ByteArray:=ubH s secs txg n++bs (Yh (ubH s secs txg n)) 4
section
variable{s:ZO}{secs:Int}{txg:Int}{n:Nd}
theorem Uk(h:1<=txg/\txg<=4294967295)[Yv n]:(ubR s secs txg n).size=176:=by
 have e:(XL txg).size=8:=by rw [Ju (by omega) (by omega),ZF]
 unfold ubR;rw [Zs,Zs,Zs,XS,n.bytes_size,e];rfl
theorem zi(h:1<=txg/\txg<=4294967295)[Yv n]:(ubH s secs txg n).size=224:=by
 unfold ubH QG;rw [Zs,Zr,Uk h]
theorem KR(h:1<=txg/\txg<=4294967295)[Yv n]:(ubS s secs txg n).size=256:=by
 unfold ubS;rw [Zs,zi h,XS]
end
theorem Zd4(s:ZO)(secs:Int)(W:World)[k:Ky s secs][m:GM s W](txg:Int)(n:Nd)[Yv n](h:1<=txg/\txg<=4294967295) :
  Fn 68 #[.agg #[.slice s.ad s.len s.cap,.int .i64 secs],.agg (Jn txg n)] W (.tuple #[.string (ubS s secs txg n),.int .i64 0]):=by
 refine⟨?_⟩;have NB:∀ w,Fn 118 #[.agg #[.int .i64 n.size,.int .i64 n.root.ag,.int .i64 n.root.aa,.int .i64 n.root.bg,.int .i64 n.root.ba,.bool n.root.two,.int .i64 n.root.size,.int .i64 n.root.level,.int .i64 n.root.birth,.int .u64 n.root.sum.a,.int .u64 n.root.sum.b,.int .u64 n.root.sum.c,.int .u64 n.root.sum.d]] w (.tuple #[.string n.bytes,.int .i64 0]):=λ w=>by have:=qY n w;rw [n.err_fit]at this;exact this
 have S1:∀ w,Fn 122 #[.string (Xh s secs s.len)] w (.agg #[.int .u64 ((Yh (Xh s secs s.len)).a:Int),.int .u64 ((Yh (Xh s secs s.len)).b:Int),.int .u64 ((Yh (Xh s secs s.len)).c:Int),.int .u64 ((Yh (Xh s secs s.len)).d:Int)]):=λ w=>⟨Qx _ (by have:=k.h.2.1;rw [jy];omega) w⟩
 have S2:∀ w,Fn 122 #[.string (ubH s secs txg n)] w (.agg #[.int .u64 ((Yh (ubH s secs txg n)).a:Int),.int .u64 ((Yh (ubH s secs txg n)).b:Int),.int .u64 ((Yh (ubH s secs txg n)).c:Int),.int .u64 ((Yh (ubH s secs txg n)).d:Int)]):=λ w=>⟨Qx _ (by rw [zi h];omega) w⟩
 have P:∀ w,Fn 119 #[.string (⟨#[112,111,108,100,101,114,48,49]⟩++XL txg++bs (Yh (Xh s secs s.len)) 4++n.bytes),.int .i64 224] w (.string (ubH s secs txg n)):=λ w=>j6 _ 224 (by omega) (by omega) (by have:=Uk (s:=s) (secs:=secs) (n:=n) h;unfold ubR qW at this;omega) w
 have e1:decide (txg<1)=false:=decide_eq_false (by omega);have e2:decide (4294967295<txg)=false:=decide_eq_false (by omega);have z1:(XL txg).size=8:=by rw [Ju (by omega) (by omega),ZF]
 have z2:=XS (Yh (Xh s secs s.len)) 4;have z3:=n.bytes_size;have z4:=Zs ⟨#[112,111,108,100,101,114,48,49]⟩ (XL txg);have z5:=Zs (⟨#[112,111,108,100,101,114,48,49]⟩++XL txg) (bs (Yh (Xh s secs s.len)) 4);have z6:=zi (s:=s) (secs:=secs) (n:=n) h;have z7:=XS (Yh (ubH s secs txg n)) 4;have z0:(⟨#[112,111,108,100,101,114,48,49]⟩:ByteArray).size=8:=rfl
 go_in
 go_wp2_with(with_reducible refine Fn.go λ g=>?_);refine plZ (.q [0,1,2,3,4,5,6,7,8,9,10,11,12] .d) ?_;simp only [Zk.run,pick,gZ,gS,gA,gN]
 (repeat go_big_quiet_step (exact qZ));refine nZ ?_
 rintro w1 ⟨g1,rfl⟩;go_wp2_with(with_reducible refine Fn.go λ g=>?_);go_ret2;exact ZM.mk rfl grown
end Go.Proofs.YtlfjdjndhcmliaaGreatDoor
namespace Go.Proofs.YtlfjdjndhcmliaaGreatDoor
open Go.RowKit Go.Sort
theorem Z0{W w:World}{h:Hl}{l:List SP}{V:VD}{N:Nat}{F:Nat->Nat->ByteArray}(B:Bt W h l w){i:Nat}(e:l[i]?=some (ZE V N F)):Zn V F w:=by
 obtain⟨h0,p,j⟩:=B.mem e;exact⟨N,⟨h0,p,j⟩⟩
class VQ(V:VD)(F:outParam (Nat->Nat->ByteArray))(l:List SP):Prop where
 e:∃(i N:Nat),l[i]?=some (ZE V N F)
instance Zmt(V:VD)(F:Nat->Nat->ByteArray)(N:Nat)(l:List SP):VQ V F (ZE V N F::l):=⟨0,N,rfl⟩
instance(priority:=low) ZmV(V:VD)(F:Nat->Nat->ByteArray)(p:SP)(l:List SP)[k:VQ V F l]:VQ V F (p::l):=by obtain⟨i,N,e⟩:=k.e;exact⟨i+1,N,e⟩
instance(priority:=low) ZmR(V:VD)(F:Nat->Nat->ByteArray)(w:World)(W:World)(h:Hl)(l:List SP)[B:Bt W h l w][m:VQ V F l]:Zn V F w:=by
 obtain⟨i,N,e⟩:=m.e;exact Z0 B e
set_option maxRecDepth 512 in
theorem KU(V:VD)(F:Nat->Nat->ByteArray)(W:World)[D:Zn V F W](k:Nat)(hk:k<V.ds.length):Fn 62 #[V.v,.int .i64 k] W (.bool true):=by
 refine⟨?_⟩;have HR:∀ W':World,[Zn V F W']->Fn 69 #[V.v] W' (.bool true):=λ W' _=>YZ V F W'
 have HH:∀(W':World),[Zn V F W']->Fn 110 #[V.v,.int .i64 k] W' (.bool true):=λ W' _=>qC V F W' k hk
 go_in
 go_wp2_with(with_reducible refine Fn.go λ g=>?_);go_ret;exact ZM.mk rfl grown
set_option maxRecDepth 512 in
theorem ZfM(txg:Nat)(h:(txg:Int)<=4294967295)(W:World):Fn 71 #[.int .i64 txg] W (.int .i64 ((txg%4*4:Nat):Int)):=by
 refine⟨?_⟩
 go_in
 go_wp2_with fail;go_ret;exact ZM.mk (by simp) grown
theorem ZiF(V:VD)(N:Nat)(F:Nat->Nat->ByteArray)(d dd a:Nat)(hdd:V.ds[d]?=some dd)(ha:a<V.secs)(s:ByteArray)(hs:s.size=64)(hN:N<1000000000000) :
  Tq 70 #[.pointer (some ⟨dd,0,none⟩),.int .i64 a,.string s] (ZE V N F) λ v q=>v=.int .i64 0/\q=ZE V (N+1) (KE F d a s):=by
 intro W h hw hp;obtain⟨ok,st⟩:=hp;have HT:=(Va dd V.secs N (F d) a s ha hs hN).atv (Qa (N:=N) (F:=F) hdd [X9 V.s,Jd V.lb (zb V.ds),Jd V.ab (List.replicate V.ds.length (.bool false))]);refine(HT.run (h:=h) W st).mono ?_;rintro e w' ⟨rfl,T⟩;exact⟨_,_,rfl,⟨rfl,rfl⟩,T.mono λ h' p=>kv ok hdd hN p⟩
def zE(F:Nat->Nat->ByteArray)(d sl j:Nat)(t:ByteArray)(e k:Nat):ByteArray:=if sl<=k/\(e<d/\k<sl+4\/e=d/\k<sl+j)then t.extract (64*(k-sl)) (64*(k-sl)+64)else F e k
theorem Zmy(F:Nat->Nat->ByteArray)(sl:Nat)(t:ByteArray):zE F 0 sl 0 t=F:=by
 funext e k
 unfold zE;rw [if_neg (by omega)]
theorem Zgc(F:Nat->Nat->ByteArray)(d sl:Nat)(t:ByteArray):zE F d sl 4 t=zE F (d+1) sl 0 t:=by
 funext e k
 unfold zE;have e1:(sl<=k/\(e<d/\k<sl+4\/e=d/\k<sl+4))↔(sl<=k/\(e<d+1/\k<sl+4\/e=d+1/\k<sl+0)):=by omega
 simp only [e1]
theorem Zit(F:Nat->Nat->ByteArray)(d sl j:Nat)(t:ByteArray):KE (zE F d sl j t) d (sl+j) (t.extract (64*j) (64*j+64))=zE F d sl (j+1) t:=by
 funext e k
 unfold KE Qw zE
 by_cases h1:e=d
 ·subst h1;rw [if_pos rfl]
  by_cases h2:k=sl+j
  ·subst h2;rw [if_pos rfl,if_pos (by omega),show sl+j-sl=j by omega]
  ·rw [if_neg h2];have e1:(sl<=k/\(e<e/\k<sl+4\/e=e/\k<sl+j))↔(sl<=k/\(e<e/\k<sl+4\/e=e/\k<sl+(j+1))):=by omega
   exact ite_congr (propext e1) (λ _=>rfl) (λ _=>rfl)
 ·rw [if_neg h1];have e1:(sl<=k/\(e<d/\k<sl+4\/e=d/\k<sl+j))↔(sl<=k/\(e<d/\k<sl+4\/e=d/\k<sl+(j+1))):=by omega
  exact ite_congr (propext e1) (λ _=>rfl) (λ _=>rfl)
theorem Zfb(V:VD)(N:Nat)(F:Nat->Nat->ByteArray)(txg:Nat)(n:Nd)[Yv n](h:1<=(txg:Int)/\(txg:Int)<=4294967295)(hN:N+400<=1000000000000) :
  Tq 28 #[V.v,.agg (Jn txg n)] (ZE V N F) λ v q=>v=.tuple #[.int .i64 0,.int .i64 0]/\q=ZE V (N+4*V.ds.length) (zE F V.ds.length (txg%4*4) 0 (ubS V.s V.secs txg n)):=by
 refine Tq.of λ W hh B=>?_
 haveI:Zn V F W:=Z0 (i:=0) B rfl;obtain⟨ok,gm,ol,oa,_⟩:=Zo V F W;haveI:Ky V.s V.secs:=⟨ok.g⟩
 have hsecs:17<=(V.secs:Int):=by have:=ok.g.2.2.1;omega
 have hle:=ok.le
 have hn0:1<=V.ds.length:=by
  have h1:=Jr ok.g V.s.len 0 (by have:=ok.g.1;omega) (Nat.le_refl _);have h2:=Yk ok.g (k:=0) (by have:=ok.g.1;omega);have h3:=ok.n;simp only [YB]at h1;omega
 have UB:=λ(w:World)(_:GM V.s w)=>Zd4 V.s V.secs w txg n h
 obtain⟨t,ht⟩:∃ t,ubS V.s V.secs txg n=t:=⟨_,rfl⟩
 have htz:t.size=256:=by rw [<-ht];exact KR h
 rw [ht]at UB ⊢;clear ht;have HR:∀(F':Nat->Nat->ByteArray)(w:World),Zn V F' w->Fn 69 #[V.v] w (.bool true):=λ F' w _=>YZ V F' w
 have HX:∀(F':Nat->Nat->ByteArray)(w:World)(k:Nat),Zn V F' w->k<V.ds.length->Fn 62 #[V.v,.int .i64 k] w (.bool true):=λ F' w k _ hk=>KU V F' w k hk
 have HS:=λ w=>ZfM txg h.2 w
 obtain⟨sl,hsl⟩:∃ sl,txg%4*4=sl:=⟨_,rfl⟩
 have hsl12:sl<=12:=by omega
 rw [hsl]at HS ⊢;clear hsl;have HSl:=Lib.hid HS;have HR1:∀ w,[Zn V F w]->Fn 69 #[V.v] w (.bool true):=λ w _=>HR F w ii
 have UB1:∀ w,[GM V.s w]->_:=λ w g=>UB w g
 clear UB HS
 go_in
 go_wp2_with(first|(with_reducible refine Fn.go λ g=>?_)|((with_reducible apply Za);(·exact rfl);(·exact ii)))
 go_loopw [8,29] (λ v i wr=>∃ d:Nat,d<=V.ds.length/\v=.int .i64 0/\i=.int .i64 d/\Bt W hh [Zd (W.heap.size+1) (Jn txg n) 54,Zd W.heap.size V.cs 31,ZE V (N+4*d) (zE F d sl 0 t)] wr)
  (λ _ i _=>V.ds.length-(intOf i).toNat)
 case atStart=>exact⟨0,Nat.zero_le _,rfl,rfl,by rw [Zmy];infer_instance⟩
 case round =>
  obtain⟨d,hd,rfl,rfl,B1⟩:=hrel
  by_cases hlt:d<V.ds.length
  ·have hdev:Zn V (zE F d sl 0 t) wr:=Z0 (i:=2) B1 rfl;have HX1:∀ w,[Zn V (zE F d sl 0 t) w]->Fn 62 #[V.v,.int .i64 d] w (.bool true):=λ w _=>HX _ w d ii hlt
   go_wp2_with(first|(with_reducible refine Fn.go λ g=>?_)|((with_reducible apply Za);(·exact rfl);(·exact ii)))
   go_loopw [10,35] (λ v i wr=>∃ j:Nat,j<=4/\v=.bool true/\i=.int .i64 j/\Bt W hh [Zd (W.heap.size+1) (Jn txg n) 54,Zd W.heap.size V.cs 31,ZE V (N+4*d+j) (zE F d sl j t)] wr)
    (λ _ i _=>4-(intOf i).toNat)
   case atStart=>exact⟨0,by omega,rfl,rfl,by infer_instance⟩
   case round =>
    clear B1 hdev;obtain⟨j,hj,rfl,rfl,B2⟩:=hrel
    by_cases hlj:j<4
    ·have hdev:Zn V (zE F d sl j t) wr:=Z0 (i:=2) B2 rfl;obtain⟨dd,hdd⟩:∃ dd,V.ds[d]?=some dd:=⟨_,List.getElem?_eq_getElem hlt⟩
     have hc:=((Zo V (zE F d sl j t) wr).2.2.2.2 d dd hdd).2.1;haveI:Yc V.lb wr:=(Zo V (zE F d sl j t) wr).2.2.1;have P:=ZiF V (N+4*d+j) (zE F d sl j t) d dd (sl+j) hdd (by omega) (t.extract (64*j) (64*j+64)) (by rw [ByteArray.size_extract];omega) (by omega);rw [Zit]at P;have HS1:=HSl.out;rw [show ((sl+j:Nat):Int)=(sl:Int)+j by omega,show 64*j+64=(j+1)*64 by omega,Nat.mul_comm 64 j]at P;clear hdd;go_wp2_with fail;refine plZ (.q [0,1,2,3,4,5,6,7,8,9,10,11,12,13,14,15,16,17,18] (.x [19] (.q [20,21,22] .d))) ?_;simp only [Zk.run,pick,gZ,gS,gA,gN]
     (repeat go_big_quiet_step (exact qZ));refine nZ ?_
     rintro w3 hw3;have B3:Bt W hh _ w3:=Ze hw3;clear hw3 B2 hdev;go_wp2_with fail;refine(Bt.call P).mono ?_;rintro e w4 ⟨v,q,rfl,⟨rfl,rfl⟩,B4⟩;dsimp only at B4 ⊢;go_wp2_with fail;dsimp only [Nx]
     (repeat go_big_quiet_step (exact qZ));refine nZ ?_
     rintro w5 hw5;have B5:Bt W hh _ w5:=Ze hw5;clear hw5 B4 B3;go_wp2_with fail;have B6:Bt W hh [_,_,_] w5:=B5;exact⟨⟨j+1,hlj,rfl,by go_num,B6⟩,by simp [intOf];omega⟩
    ·obtain rfl:j=4:=by omega
     rw [Zgc]at B2;go_wp2_with fail;exact⟨⟨d+1,hlt,rfl,by go_num,B2⟩,by simp [intOf];omega⟩
  ·obtain rfl:V.ds.length=d:=by omega
   have hne:((0:Int)==(V.ds.length:Int))=false:=by simp;omega
   go_wp2_with fail;go_ret2
   (first|apply Zv|apply Zu)
   exact⟨⟨rfl,rfl⟩,B1.fin_at 2 rfl⟩
abbrev X7(V:VD)(txg:Int)(root live:Nd)(ss sl b work was:Value):Array Value:=#[.slice V.s.ad V.s.len V.s.cap,.int .i64 V.secs,.slice (some ⟨V.lb,0,none⟩) V.ds.length V.lc,.slice (some ⟨V.ab,0,none⟩) V.ds.length V.ac,
 .int .i64 txg,.int .i64 root.size,.int .i64 root.root.ag,.int .i64 root.root.aa,.int .i64 root.root.bg,.int .i64 root.root.ba,.bool root.root.two,.int .i64 root.root.size,.int .i64 root.root.level,.int .i64 root.root.birth,.int .u64 root.root.sum.a,.int .u64 root.root.sum.b,.int .u64 root.root.sum.c,.int .u64 root.root.sum.d,
 .int .i64 live.size,.int .i64 live.root.ag,.int .i64 live.root.aa,.int .i64 live.root.bg,.int .i64 live.root.ba,.bool live.root.two,.int .i64 live.root.size,.int .i64 live.root.level,.int .i64 live.root.birth,.int .u64 live.root.sum.a,.int .u64 live.root.sum.b,.int .u64 live.root.sum.c,.int .u64 live.root.sum.d,ss,.int .i64 0,.int .i64 0,.int .i64 0,.int .i64 0,.int .i64 0,.int .i64 0,.int .i64 0,.int .i64 0,.int .i64 0,sl,
 b,work,was,.bool false]
abbrev J8(st:Nat)(live:Nd)(ss sl:Value):Array Value:=#[.pointer (some ⟨st,0,none⟩),.int .i64 live.size,.int .i64 live.root.ag,.int .i64 live.root.aa,.int .i64 live.root.bg,.int .i64 live.root.ba,.bool live.root.two,.int .i64 live.root.size,.int .i64 live.root.level,.int .i64 live.root.birth,.int .u64 live.root.sum.a,.int .u64 live.root.sum.b,.int .u64 live.root.sum.c,.int .u64 live.root.sum.d,ss,.int .i64 0,.int .i64 0,.int .i64 0,.int .i64 0,.int .i64 0,.int .i64 0,.int .i64 0,.int .i64 0,.int .i64 0,sl]
section
variable(V:VD)(pb:Nat)(txg:Int)(root live:Nd)(ss sl b work was:Value)(W:World)[k:Zh W pb (X7 V txg root live ss sl b work was)]
include k
set_option maxRecDepth 512 in
theorem j9:Fn 20 #[.pointer (some ⟨pb,0,none⟩)] W (.bool false):=by
 refine⟨?_⟩;haveI:Yc pb W:=k.old
 go_in
 go_wp2_with fail;go_ret;exact ZM.mk rfl grown
set_option maxRecDepth 512 in
theorem ZfE(tx:Int)(h:txg+1=tx)(h1:txg<=4294967295)(h0:0<=txg):Fn 26 #[.pointer (some ⟨pb,0,none⟩)] W (.int .i64 tx):=by
 refine⟨?_⟩;haveI:Yc pb W:=k.old
 go_in
 go_wp2_with fail;go_ret;exact ZM.mk rfl grown
end
theorem ZdC:∃ j,Tryz.prog.info? 188=some j:=by
 have h:(Tryz.prog.info? 188).map (·.size)=some 25:=by kernel_rfl
 cases e:Tryz.prog.info? 188 with
 |none=>rw [e]at h;cases h
 |some j=>exact⟨j,rfl⟩
theorem Zjr(w:World)(a:Addr):(binOp .eql 80 (.pointer (some a)) (.pointer (some a))).run Tryz.prog w=.ok (.bool true) w:=by
 obtain⟨j,hj⟩:=ZdC;exact run_eql_ptr_same w a Tryz.underlying80 hj
theorem Zjf(w:World)(a:Addr):(binOp .neq 80 (.pointer (some a)) (.pointer (some a))).run Tryz.prog w=.ok (.bool false) w:=by
 obtain⟨j,hj⟩:=ZdC
 have h:∀ d:Nat,(Op.equalIn (d+1) 80 (.pointer (some a)) (.pointer (some a))).run Tryz.prog w=.ok true w:=λ d=>by
  simp [Op.equalIn,run_underlying Tryz.underlying80,sizeOf,typeInfo,hj,run_sameAddr_same]
 simp only [binOp];simp [Op.equal,Op.maxDepth,h 9999]
theorem zx(V:VD)(pb bb:Nat)(txg tx keep:Nat)(hx:(txg:Int)+1=tx)(h1:txg<=4294967295)(root live:Nd)(ss sl work was:Value)(W:World)[k:Zh W pb (X7 V txg root live ss sl (.pointer (some ⟨bb,0,none⟩)) work was)] :
  Calls Tryz.prog 36 #[.pointer (some ⟨pb,0,none⟩),.int .i64 keep] W λ e w'=>∃ st,e=.returned (.pointer (some ⟨st,0,none⟩))/\zP (Zd st (Qs V bb tx keep false (.pointer none)) 169) W w':=by
 haveI:Yc pb W:=k.old;haveI:=Bt.zero W
 go_in
 go_wp2_with fail;refine plZ (.q [0,1,2,3,4,5,6,7,8,9,10,11,12,13,14,15] (.g 16 (.q [17] .d))) ?_;simp only [Zk.run,pick,gZ,gS,gA,gN]
 (repeat go_big_quiet_step (exact qZ));refine nZ ?_
 rintro w1 hw1;have B1:=Ze hw1;go_wp2_with fail;dsimp only [Nx];refine⟨Kw hw1 _,?_⟩
 (repeat go_big_quiet_step (exact qZ));refine nZ ?_
 rintro w2 hw2;have B2:Bt W (λ _=>none) [_] w2:=Ze hw2;clear hw2 hw1;go_wp2_with fail;go_ret;exact⟨_,rfl,B2.new1⟩
theorem Zgz(V:VD)(pb:Nat)(txg:Nat)(root live:Nd)(ss sl b was:Value)(W:World)[k:Zh W pb (X7 V txg root live ss sl b (.pointer none) was)] :
  Calls Tryz.prog 21 #[.pointer (some ⟨pb,0,none⟩),.pointer none] W λ e w'=>(∃ v,e=.returned v)/\∃ g,w'=gr W g:=by
 haveI:Yc pb W:=k.old
 go_in
 go_wp2_with fail;go_end0;exact⟨⟨_,rfl⟩,Y1 W⟩
theorem Zdg(V:VD)(pb wk:Nat)(txg:Nat)(root live:Nd)(ss sl:Value)(ob ow:Option Addr) :
  Tq 21 #[.pointer (some ⟨pb,0,none⟩),.pointer (some ⟨wk,0,none⟩)] (Zd pb (X7 V txg root live ss sl (.pointer ob) (.pointer (some ⟨wk,0,none⟩)) (.pointer ow)) 82) λ _ q=>q=Zd pb (X7 V txg root live ss sl (.pointer ow) (.pointer none) (.pointer ow)) 82:=by
 refine Tq.of λ W h B=>?_
 have E:=λ w=>Zjr w ⟨wk,0,none⟩
 go_in
 go_wp2_with fail;go_end0;have B1:Bt W h [_] ((W.setCell ⟨pb,42,none⟩ (.pointer ow)).setCell ⟨pb,43,none⟩ (.pointer none)):=ii;exact⟨_,_,rfl,rfl,B1.fin_at 0 rfl⟩
end Go.Proofs.YtlfjdjndhcmliaaGreatDoor
