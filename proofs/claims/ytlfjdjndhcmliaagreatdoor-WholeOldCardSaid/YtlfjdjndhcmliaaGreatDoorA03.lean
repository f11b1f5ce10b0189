/- WholeOld, part 3. -/
import Derived.Test.YtlfjdjndhcmliaaGreatDoorA01
import Derived.Test.YtlfjdjndhcmliaaGreatDoorA02
set_option maxRecDepth 100000
set_option maxHeartbeats 4000000
set_option linter.all false
namespace Go.Proofs.YtlfjdjndhcmliaaGreatDoor
open Go.RowKit Go.Sort
class JF(b n:Nat)(l:outParam (List Int))(W:World):Prop where
 len:l.length=n
 few:n<=65536
 old:Yc b W
 cell:∀ k,k<n->W.cell? ⟨b,k,none⟩=some (.int .i64 (l.getD k 0))
instance ZqR(W:World)(b:Nat)(x y:Int)(t:TypeId)[k:ZX W b]:JF b 2 [x,y] (W.alloc (.cells #[.int .i64 x,.int .i64 y] t)) :=
 ⟨rfl,by omega,ii,λ j hj=>by rw [Qc];match j,hj with
  |0,_=>rfl
  |1,_=>rfl⟩
instance ZpT(W:World)(b:Nat)(x y z u v:Int)(t:TypeId)[k:ZX W b]:JF b 5 [x,y,z,u,v] (W.alloc (.cells #[.int .i64 x,.int .i64 y,.int .i64 z,.int .i64 u,.int .i64 v] t)) :=
 ⟨rfl,by omega,ii,λ j hj=>by rw [Qc];match j,hj with
  |0,_=>rfl
  |1,_=>rfl
  |2,_=>rfl
  |3,_=>rfl
  |4,_=>rfl⟩
instance Zp9(W:World)(b:Nat)(x y z u v s:Int)(t:TypeId)[k:ZX W b]:JF b 6 [x,y,z,u,v,s] (W.alloc (.cells #[.int .i64 x,.int .i64 y,.int .i64 z,.int .i64 u,.int .i64 v,.int .i64 s] t)) :=
 ⟨rfl,by omega,ii,λ j hj=>by rw [Qc];match j,hj with
  |0,_=>rfl
  |1,_=>rfl
  |2,_=>rfl
  |3,_=>rfl
  |4,_=>rfl
  |5,_=>rfl⟩
instance Zo6(b n:Nat)(l:List Int)(W:World)(g:Gr)[h:JF b n l W]:JF b n l (gr W g):=by
 haveI:=h.old;exact⟨h.len,h.few,ii,λ k hk=>(Z7 ..).trans (h.cell k hk)⟩
def okN(most n:Int):Bool:=decide (0<=n/\n<=most)
def Y7(most:Int)(l:List Int):Bool:=l.all (okN most)
theorem U7{α:Type}(l:List α)(d:α)(k:Nat)(h:k<l.length):l.take (k+1)=l.take k++[l.getD k d]:=by
 rw [List.take_succ_eq_append_getElem h,List.getD_eq_getElem?_getD,List.getElem?_eq_getElem h];rfl
set_option maxRecDepth 512 in
theorem Vf(most:Int)(b n:Nat)(l:List Int)(W:World)[h:JF b n l W]:Fn 218 #[.int .i64 most,.slice (some ⟨b,0,none⟩) n n] W (.bool (Y7 most l)):=by
 refine⟨?_⟩;haveI:=h.old;have hc:=Lib.hid h.cell;have hl:=Lib.hid h.len;have hn:=h.few
 go_in
 go_wp2_with fail
 go_loopw [9] (λ i wr=>∃ k:Nat,k<=n/\i=.int .i64 k/\Y7 most (l.take k)=true/\∃ g:Gr,wr=gr W g) (λ i _=>n-(intOf i).toNat)
 case atStart=>exact⟨0,Nat.zero_le _,rfl,rfl,Y1 _⟩
 case round =>
  obtain⟨k,hk,rfl,ht,g,rfl⟩:=hrel;have HT:=Lib.hid ht;clear ht
  by_cases hlt:k<n
  ·have hck:=hc.out k hlt;obtain⟨x,hx⟩:∃ x,l.getD k 0=x:=⟨_,rfl⟩
   rw [hx]at hck;have HS:=Lib.hid (U7 l 0 k (by rw [hl.out];exact hlt));have HX:=Lib.hid hx;clear hx
   by_cases h0:x<0<;>by_cases h1:most<x
   any_goals
    have hw:Y7 most l=false:=by
     unfold Y7;rw [<-List.take_append_drop (k+1) l,HS.out,HX.out];simp [okN];omega
    have HW:=Lib.hid hw;clear hw;go_wp2_with fail;go_ret;exact ZM.mk (by rw [HW.out];rfl) grown
   go_wp2_with fail
   go_roundw
   case rel=>exact⟨k+1,by omega,by go_num,by have:=HT.out;unfold Y7 at this ⊢;rw [HS.out,List.all_append,this,HX.out];simp [okN];omega,_,rfl⟩
   case measure=>simp [intOf];omega
  ·obtain rfl:n=k:=by omega
   have HW:Hid (Y7 most l=true):=by have:=HT.out;rwa [List.take_of_length_le (by rw [hl.out];omega)]at this
   go_wp2_with fail;go_ret;exact ZM.mk (by rw [HW.out];rfl) grown
instance Znq(most:Int)(b:Nat)(l:List Int)(W:World)[h:JF b 2 l W]:Fn 218 #[.int .i64 most,.slice (some ⟨b,0,none⟩) 2 2] W (.bool (Y7 most l)):=Vf most b 2 l W
instance ZnB(most:Int)(b:Nat)(l:List Int)(W:World)[h:JF b 5 l W]:Fn 218 #[.int .i64 most,.slice (some ⟨b,0,none⟩) 5 5] W (.bool (Y7 most l)):=Vf most b 5 l W
def XV(l:List Int):ByteArray:=l.foldl (λ s n=>s++Ux n) jg
theorem UG(n:Int):(Ux n).size<=4:=by
 unfold Ux;split
 ·rw [ZF];omega
 ·exact Nat.zero_le _
theorem Zbv(l:List Int)(n:Int):XV (l++[n])=XV l++Ux n:=by simp [XV]
theorem Jo(l:List Int):(XV l).size<=4*l.length:=by
 have key:∀(l:List Int)(s:ByteArray),(l.foldl (λ s n=>s++Ux n) s).size<=s.size+4*l.length:=by
  intro l
  induction l with
  |nil=>intro s;exact Nat.le_refl _
  |cons n l ih =>
   intro s;have h1:=ih (s++Ux n);have h2:=UG n;rw [ByteArray.size_append]at h1;simp only [List.foldl_cons,List.length_cons];omega
 have:=key l jg
 rwa [UQ,Nat.zero_add]at this
set_option maxRecDepth 512 in
theorem ZhE(b n:Nat)(l:List Int)(W:World)[h:JF b n l W]:Fn 219 #[.slice (some ⟨b,0,none⟩) n n] W (.string (XV l)):=by
 refine⟨?_⟩;haveI:=h.old;have hc:=Lib.hid h.cell;have hl:=Lib.hid h.len;have hn:=h.few
 go_in
 go_wp2_with fail
 go_loopw [3,8] (λ v i wr=>∃ k:Nat,k<=n/\i=.int .i64 k/\v=.string (XV (l.take k))/\∃ g:Gr,wr=gr W g) (λ _ i _=>n-(intOf i).toNat)
 case atStart=>exact⟨0,Nat.zero_le _,rfl,rfl,Y1 _⟩
 case round =>
  obtain⟨k,hk,rfl,rfl,g,rfl⟩:=hrel
  by_cases hlt:k<n
  ·have hck:=hc.out k hlt;obtain⟨x,hx⟩:∃ x,l.getD k 0=x:=⟨_,rfl⟩
   have hs:=Jo (l.take k);have hl2:(l.take k).length<=k:=List.length_take_le _ _;have hu:=UG x;have HS:Hid (XV (l.take (k+1))=XV (l.take k)++Ux x):=by rw [U7 l 0 k (by rw [hl.out];exact hlt),hx,Zbv];rfl
   rw [hx]at hck;clear hx;go_wp2_with(with_reducible refine Fn.go λ g=>?_)
   go_roundw
   case rel=>exact⟨k+1,by omega,by go_num,by rw [HS.out],_,rfl⟩
   case measure=>simp [intOf];omega
  ·obtain rfl:n=k:=by omega
   have HW:Hid (l.take n=l):=List.take_of_length_le (by rw [hl.out];omega);go_wp2_with fail;go_ret;exact ZM.mk (by rw [HW.out];rfl) grown
instance Zos(b:Nat)(l:List Int)(W:World)[h:JF b 6 l W]:Fn 219 #[.slice (some ⟨b,0,none⟩) 6 6] W (.string (XV l)):=ZhE b 6 l W
structure Pt where
 ag:Int
 aa:Int
 bg:Int
 ba:Int
 two:Bool
 size:Int
 level:Int
 birth:Int
 sum:S4
def Pt.ok(p:Pt):Bool:=Y7 4294967295 [p.ag,p.aa,p.bg,p.ba,p.birth]&&Y7 255 [p.size,p.level]
def Pt.one(p:Pt):Int:=p.size+p.level*256+if p.two then 65536 else 0
def Pt.raw(p:Pt):ByteArray:=XV [p.ag,p.aa,p.bg,p.ba,p.one,p.birth]++bs p.sum 4
def Pt.bytes(p:Pt):ByteArray:=if p.ok then QG p.raw 64 else jg
def Pt.err(p:Pt):Int:=if p.ok then 0 else 1
def Pt.cs(p:Pt):Array Value:=#[.int .i64 p.ag,.int .i64 p.aa,.int .i64 p.bg,.int .i64 p.ba,.bool p.two,.int .i64 p.size,.int .i64 p.level,.int .i64 p.birth,.int .u64 p.sum.a,.int .u64 p.sum.b,.int .u64 p.sum.c,.int .u64 p.sum.d]
instance ZlK(x:S4)(W:World):Fn 121 #[.agg #[.int .u64 x.a,.int .u64 x.b,.int .u64 x.c,.int .u64 x.d]] W (.string (bs x 4)):=Fn.of (Zeq x) W
theorem ZfN(p:Pt):p.raw.size<=56:=by
 have:=Jo [p.ag,p.aa,p.bg,p.ba,p.one,p.birth];unfold Pt.raw;rw [ByteArray.size_append,XS];simp at this;omega
set_option maxRecDepth 512 in
instance ZdX(ag aa bg ba:Int)(two:Bool)(size level birth:Int)(x:S4)(W:World) :
  Fn 172 #[.agg #[.int .i64 ag,.int .i64 aa,.int .i64 bg,.int .i64 ba,.bool two,.int .i64 size,.int .i64 level,.int .i64 birth,.int .u64 x.a,.int .u64 x.b,.int .u64 x.c,.int .u64 x.d]] W
   (.tuple #[.string (Pt.bytes ⟨ag,aa,bg,ba,two,size,level,birth,x⟩),.int .i64 (Pt.err ⟨ag,aa,bg,ba,two,size,level,birth,x⟩)]):=by
 refine⟨?_⟩;obtain⟨p,hp⟩:∃ p:Pt,p=⟨ag,aa,bg,ba,two,size,level,birth,x⟩:=⟨_,rfl⟩
 rw [<-hp];cases h1:Y7 4294967295 [ag,aa,bg,ba,birth]
 ·have e1:=Lib.hid (show p.ok=false by simp [hp,Pt.ok,h1])
  go_in
  go_wp2_with(with_reducible refine Fn.go λ g=>?_);go_ret2;exact ZM.mk (by unfold Pt.bytes Pt.err;rw [e1.out];rfl) grown
 ·cases h2:Y7 255 [size,level]
  ·have e1:=Lib.hid (show p.ok=false by simp [hp,Pt.ok,h1,h2])
   go_in
   go_wp2_with(with_reducible refine Fn.go λ g=>?_);go_ret2;exact ZM.mk (by unfold Pt.bytes Pt.err;rw [e1.out];rfl) grown
  ·have e1:=Lib.hid (show p.ok=true by simp [hp,Pt.ok,h1,h2]);have hb:(0<=size/\size<=255)/\0<=level/\level<=255:=by simpa [Y7,okN]using h2
   obtain⟨⟨s0,s1⟩,l0,l1⟩:=hb;have HP:=Lib.hid hp;clear hp
   haveI hpad:∀(o:Int)(W:World),Fn 119 #[.string (XV [ag,aa,bg,ba,o,birth]++bs x 4),.int .i64 64] W (.string (QG (XV [ag,aa,bg,ba,o,birth]++bs x 4) 64)):=λ o W =>
    j6 _ 64 (by omega) (by omega) (by have:=Jo [ag,aa,bg,ba,o,birth];rw [ByteArray.size_append,XS];simp at this;omega) W
   have hz:∀ o,(XV [ag,aa,bg,ba,o,birth]).size<=24:=λ o=>by have:=Jo [ag,aa,bg,ba,o,birth];simpa using this
   have z0:=hz (size+level*256);have z1:=hz (size+level*256+65536);clear hz;cases two
   all_goals
    go_in
    go_wp2_with(with_reducible refine Fn.go λ g=>?_);refine plZ (.q [0,1,2,3,4,5,6,7,8,9,10,11,12,13,14,17,18] (.g 15 (.q [16,19,20,21,22,23] .d))) ?_;simp only [Zk.run,pick,gZ,gS,gA,gN]
    (repeat go_big_quiet_step (exact qZ));refine nZ ?_
    rintro _ ⟨gp,rfl⟩;go_wp2_with fail;refine And.intro (by first|exact⟨_,ZK _ _ _⟩|exact⟨_,rfl⟩|exact⟨_,ZW _ _ _⟩) ?_
    (repeat go_big_quiet_step (exact qZ));refine nZ ?_;rintro _ ⟨g,rfl⟩
    go_wp2_with fail;go_ret2;exact ZM.mk (by unfold Pt.bytes Pt.err;rw [e1.out];simp [Pt.raw,HP.out,Pt.one]) grown
def Zif(s:ByteArray):Pt:=⟨Xi s 0 4,Xi s 4 4,Xi s 8 4,Xi s 12 4,decide (0<Xi s 16 4/65536),Xi s 16 4%256,Xi s 16 4/256%256,Xi s 20 4,zU s 24⟩
def Pt.none:Pt:=⟨0,0,0,0,false,0,0,0,Xm⟩
theorem Zf7{x:Int}(h0:0<=x)(h1:x<=131071):bits .and .i64 x 255=x%256:=by
 obtain⟨n,rfl⟩:=Int.eq_ofNat_of_zero_le h0;have hl:n &&& 255=n%256:=Nat.and_two_pow_sub_one_eq_mod n 8;have hm:(BitVec.ofInt 64 (n:Int)).toNat=n:=by rw [BitVec.ofInt_natCast,BitVec.toNat_ofNat];exact Nat.mod_eq_of_lt (by omega)
 show IntKind.i64.wrap ((BitVec.ofInt 64 (n:Int) &&& BitVec.ofInt 64 255).toNat:Int)=_;rw [BitVec.toNat_and,hm,show (BitVec.ofInt 64 255).toNat=255 from rfl,hl];exact IntWalk.i64_in _ (by omega)
set_option maxRecDepth 512 in
theorem ZeX(s:ByteArray)(hs:s.size=64)(h1:Xi s 16 4<=131071)(h2:Qd s 56=true)(W:World):Fn 201 #[.string s] W (.tuple #[.agg (Zif s).cs,.int .i64 0]):=by
 refine⟨?_⟩;haveI:Bd s 0:=⟨by omega,by omega,by omega⟩
 haveI:Bd s 4:=⟨by omega,by omega,by omega⟩
 haveI:Bd s 8:=⟨by omega,by omega,by omega⟩
 haveI:Bd s 12:=⟨by omega,by omega,by omega⟩
 haveI:Bd s 16:=⟨by omega,by omega,by omega⟩
 haveI:Bd s 20:=⟨by omega,by omega,by omega⟩
 haveI:Bd s 56:=⟨by omega,by omega,by omega⟩
 have a0:X8 s 0 4=4:=if_pos (by omega);have a1:X8 s 4 4=8:=if_pos (by omega);have a2:X8 s 8 4=12:=if_pos (by omega);have a3:X8 s 12 4=16:=if_pos (by omega);have a4:X8 s 16 4=20:=if_pos (by omega);have a5:X8 s 20 4=24:=if_pos (by omega);have n4:=(kg s 16 4 (by omega) (by omega)).1
 haveI:∀(b:Nat)(w:World) [yc b s 24 w],yF 191 #[.pointer (some ⟨b,0,none⟩)] w (.tuple #[.agg #[.int .u64 (zU s 24).a,.int .u64 (zU s 24).b,.int .u64 (zU s 24).c,.int .u64 (zU s 24).d],.int .i64 0]) (w.setCell ⟨b,1,none⟩ (.int .i64 56)) :=
  λ b w _=>kr b s 24 w (by omega) (by omega) (by omega)
 go_in
 go_wp2_with(with_reducible refine FnX.go ?_);refine wp_loop_rounds 7 ?_
 iterate 7 (rw [rounds_succ];go_wp2_with(first|(with_reducible refine Fn.go λ g=>?_)|(with_reducible refine yF.go λ g=>?_)))
 refine bodyPost_ret ?_ rfl ⟨rfl,grown⟩;simp [results,Tryz.results201,go_sem,Zif,Pt.cs];exact⟨Zf7 n4 h1,Zf7 (by omega) (by omega)⟩
theorem ZdK(X:Int)(h0:0<=X):∀ n:Nat,(J6 (Qp X n).data.toList:Int)=X%256^n
 |0=>by simp [Qp,leB,strOfNums,J6,Int.emod_one]
 |n+1=>by
  have ih:=ZdK X h0 n;rw [ZhX]at ih ⊢;rw [ZaL,List.map_append,zf,List.length_map,jV];simp only [List.map_cons,List.map_nil,J6,Nat.mul_zero,Nat.add_zero];rw [Int.natCast_add,ih,Int.natCast_mul];have hb:=Zh2 X n;have e1:((UInt8.ofNat (yZ X n).toNat).toNat:Int)=yZ X n:=by rw [UInt8.toNat_ofNat'];omega
  have e2:yZ X n=X/256^n%256:=by unfold yZ;rw [Int.pow_mul];rfl
  rw [e1,e2,Int.natCast_pow,show (256:Int)^(n+1)=256^n*256 from Int.pow_succ _ _];have hp:(0:Int)<256^n:=Int.pow_pos (by omega);generalize (256:Int)^n=a at hp ⊢;rw [Int.emod_def X a,Int.emod_def (X/a) 256,Int.emod_def X (a*256),<- Int.ediv_ediv_of_nonneg (by omega),Int.mul_sub,Int.mul_assoc];omega
theorem Zfd(s:ByteArray)(A B:List UInt8)(X:Int)(i n:Nat)(h0:0<=X)(h1:X<256^n)(hA:A.length=i)(h:s.data.toList=A++((Qp X n).data.toList++B)):(num s i n:Int)=X:=by
 have hl:(Qp X n).data.toList.length=n:=by rw [Zi,ZF]
 unfold num;rw [h,<- hA,List.drop_left,List.take_left' hl,ZdK X h0 n,Int.emod_eq_of_lt h0 h1]
def Pt.fit(p:Pt):Prop:=p.ok=true/\p.sum.ok
theorem Pt.fit_in{p:Pt}(h:p.fit):(0<=p.ag/\p.ag<256^4)/\(0<=p.aa/\p.aa<256^4)/\(0<=p.bg/\p.bg<256^4)/\(0<=p.ba/\p.ba<256^4)/\(0<=p.birth/\p.birth<256^4)/\(0<=p.size/\p.size<=255)/\0<=p.level/\p.level<=255:=by
 have:=h.1;simp only [Pt.ok,Y7,okN,List.all_cons,List.all_nil,Bool.and_true,Bool.and_eq_true,decide_eq_true_eq]at this;omega
theorem XN{n:Int}(h0:0<=n)(h1:n<256^4):Ux n=Qp n 4:=if_pos ⟨h0,by omega⟩
theorem Pt.list{p:Pt}(h:p.fit):p.bytes.data.toList=(Qp p.ag 4).data.toList++((Qp p.aa 4).data.toList++((Qp p.bg 4).data.toList++((Qp p.ba 4).data.toList++((Qp p.one 4).data.toList++((Qp p.birth 4).data.toList ++
  ((Qp p.sum.a 8).data.toList++((Qp p.sum.b 8).data.toList++((Qp p.sum.c 8).data.toList++((Qp p.sum.d 8).data.toList++(Zx 8).data.toList))))))))):=by
 obtain⟨a1,a2,a3,a4,a5,a6,a7⟩:=Pt.fit_in h;have h1:0<=p.one/\p.one<256^4:=by unfold Pt.one;split<;>omega
 have hr:p.raw.size=56:=by
  unfold Pt.raw;rw [ByteArray.size_append,XS];simp only [XV,List.foldl_cons,List.foldl_nil,XN a1.1 a1.2,XN a2.1 a2.2,XN a3.1 a3.2,XN a4.1 a4.2,XN a5.1 a5.2,XN h1.1 h1.2,ByteArray.size_append,ZF,UQ]
 unfold Pt.bytes;rw [if_pos h.1];unfold QG;rw [hr];unfold Pt.raw;simp only [XV,List.foldl_cons,List.foldl_nil,XN a1.1 a1.2,XN a2.1 a2.2,XN a3.1 a3.2,XN a4.1 a4.2,XN a5.1 a5.2,XN h1.1 h1.2,bs,S4.nth,ZQ,List.append_assoc];simp [jg]
theorem Pt.bytes_size{p:Pt}(h:p.fit):p.bytes.size=64:=by
 rw [<-Zi,Pt.list h];simp only [List.length_append,Zi,ZF,Zr]
theorem ZY(s:ByteArray)(A B:List UInt8)(X i n:Int)(h0:0<=X)(h1:X<256^n.toNat)(hi:0<=i)(hn:0<=n)(hA:A.length=i.toNat)(h:s.data.toList=A++((Qp X n.toNat).data.toList++B)):Xi s i n=X:=by
 have hl:(Qp X n.toNat).data.toList.length=n.toNat:=by rw [Zi,ZF]
 have hz:=congrArg List.length h;rw [Zi,List.length_append,List.length_append,hl]at hz;unfold Xi;rw [if_pos (by omega)];exact Zfd s A B X i.toNat n.toNat h0 h1 hA h
theorem Pt.eq_rd{p:Pt}(h:p.fit):Zif p.bytes=p:=by
 obtain⟨a1,a2,a3,a4,a5,a6,a7⟩:=Pt.fit_in h;have h1:0<=p.one/\p.one<256^4:=by unfold Pt.one;split<;>omega
 have hl:=Pt.list h;have e0:=ZY p.bytes [] _ p.ag 0 4 a1.1 a1.2 (by omega) (by omega) rfl hl;have e1:=ZY p.bytes (Qp p.ag 4).data.toList _ p.aa 4 4 a2.1 a2.2 (by omega) (by omega) (by rw [Zi,ZF];rfl) hl;have l2:=hl;rw [<-List.append_assoc]at l2;have e2:=ZY p.bytes _ _ p.bg 8 4 a3.1 a3.2 (by omega) (by omega) (by simp only [List.length_append,Zi,ZF];rfl) l2;rw [<-List.append_assoc]at l2;have e3:=ZY p.bytes _ _ p.ba 12 4 a4.1 a4.2 (by omega) (by omega) (by simp only [List.length_append,Zi,ZF];rfl) l2;rw [<-List.append_assoc]at l2;have e4:=ZY p.bytes _ _ p.one 16 4 h1.1 h1.2 (by omega) (by omega) (by simp only [List.length_append,Zi,ZF];rfl) l2;rw [<-List.append_assoc]at l2;have e5:=ZY p.bytes _ _ p.birth 20 4 a5.1 a5.2 (by omega) (by omega) (by simp only [List.length_append,Zi,ZF];rfl) l2;have s8:∀ n:Nat,n<MM->0<=(n:Int)/\(n:Int)<256^Int.toNat 8:=λ n hn=>⟨by omega,by rw [show (256:Int)^Int.toNat 8=(MM:Nat) by decide];omega⟩
 obtain⟨q0,q1,q2,q3⟩:=h.2;rw [<-List.append_assoc]at l2;have f0:=ZY p.bytes _ _ p.sum.a 24 8 (s8 _ q0).1 (s8 _ q0).2 (by omega) (by omega) (by simp only [List.length_append,Zi,ZF];rfl) l2;rw [<-List.append_assoc]at l2;have f1:=ZY p.bytes _ _ p.sum.b 32 8 (s8 _ q1).1 (s8 _ q1).2 (by omega) (by omega) (by simp only [List.length_append,Zi,ZF];rfl) l2;rw [<-List.append_assoc]at l2;have f2:=ZY p.bytes _ _ p.sum.c 40 8 (s8 _ q2).1 (s8 _ q2).2 (by omega) (by omega) (by simp only [List.length_append,Zi,ZF];rfl) l2;rw [<-List.append_assoc]at l2;have f3:=ZY p.bytes _ _ p.sum.d 48 8 (s8 _ q3).1 (s8 _ q3).2 (by omega) (by omega) (by simp only [List.length_append,Zi,ZF];rfl) l2;obtain⟨ag,aa,bg,ba,two,size,level,birth,a,b,c,d⟩:=p
 have g0:zU (Pt.bytes ⟨ag,aa,bg,ba,two,size,level,birth,⟨a,b,c,d⟩⟩) 24=⟨a,b,c,d⟩:=by
  unfold zU;dsimp only at f0 f1 f2 f3;rw [f0,show (24:Int)+8=32 from rfl,f1,show (24:Int)+16=40 from rfl,f2,show (24:Int)+24=48 from rfl,f3];rfl
 unfold Zif;rw [e0,e1,e2,e3,e4,e5,g0];dsimp only [Pt.one]at *
 simp only [Pt.mk.injEq,true_and,and_true];cases two<;>simp<;>omega
end Go.Proofs.YtlfjdjndhcmliaaGreatDoor
