/- WholeOld, part 5. -/
import Derived.Test.YtlfjdjndhcmliaaGreatDoorA04
set_option maxRecDepth 100000
set_option maxHeartbeats 4000000
set_option linter.all false
namespace Go.Proofs.YtlfjdjndhcmliaaGreatDoor
open Go.RowKit Go.Sort
class Sz4(s:ByteArray):Prop where
 h:s.size<=65536
theorem Zcd(l:List UInt8)(h:∀ b∈l,b=0):l.dropWhile (·== 0)=[]:=by
 induction l with
 |nil=>rfl
 |cons x l ih=>rw [h x (by simp)];exact ih λ b hb=>h b (by simp [hb])
theorem J4(s:ByteArray)(i:Int)(h:∀ b∈s.data.toList.drop i.toNat,b=0):Qd s i=true:=by
 have e:Ve (s.extract i.toNat s.size)=⟨#[]⟩:=by
  unfold Ve;rw [Lib.extract_from,Lib.trimB,Lib.trimRightB,Zcd _ (λ b hb=>h b (by simpa using hb))];rfl
 unfold Qd;rw [e,ByteArray.toList,ByteArray.toList.loop];rfl
theorem Yj(n:Nat):(Zx n).data.toList=List.replicate n 0:=by
 unfold Zx;simp only []
 induction n with
 |zero=>rfl
 |succ n ih=>simp [Lib.repeatL,List.replicate_succ]at *;try exact ih
instance ZmG(p:Pt)(W:World):Fn 172 #[.agg p.cs] W (.tuple #[.string p.bytes,.int .i64 p.err]):=ZdX p.ag p.aa p.bg p.ba p.two p.size p.level p.birth p.sum W
def zN(n:Int):Int:=if n<=256 then 0 else if n<=1024 then 1 else if n<=4096 then 2 else 3
instance Jc(n:Int)(W:World):Fn 161 #[.int .i64 n] W (.int .i64 (zN n)):=by
 refine⟨?_⟩;unfold zN
 go_in
 by_cases h0:n<=256
 ·rw [if_pos h0];go_wp2_with fail;refine wp_loop_rounds 4 ?_
  iterate 1 (rw [rounds_succ];go_wp2_with fail)
  go_ret;exact ZM.mk rfl grown
 ·rw [if_neg h0]
  by_cases h1:n<=1024
  ·rw [if_pos h1];go_wp2_with fail;refine wp_loop_rounds 4 ?_
   iterate 2 (rw [rounds_succ];go_wp2_with fail)
   go_ret;exact ZM.mk rfl grown
  ·rw [if_neg h1]
   by_cases h2:n<=4096
   ·rw [if_pos h2];go_wp2_with fail;refine wp_loop_rounds 4 ?_
    iterate 3 (rw [rounds_succ];go_wp2_with fail)
    go_ret;exact ZM.mk rfl grown
   ·rw [if_neg h2]
    by_cases h3:n<=16384
    all_goals
     go_wp2_with fail;refine wp_loop_rounds 4 ?_
     iterate 4 (rw [rounds_succ];go_wp2_with fail)
     go_ret;exact ZM.mk rfl grown
instance Zqb(s:ByteArray)(W:World)[h:Sz4 s]:Fn 119 #[.string s,.int .i64 64] W (.string (QG s 64)):=j6 s 64 (by omega) (by omega) h.h W
def ZdG(s:ByteArray):ByteArray:=if s.size<=256 then QG s 64 else jg
instance Zdt(s:ByteArray)(W:World)[hs:Sz4 s]:Fn 217 #[.agg #[.string s]] W (.string (ZdG s)):=by
 refine⟨?_⟩;unfold ZdG
 go_in
 by_cases h0:s.size<=256
 ·rw [if_pos h0];go_wp2_with(with_reducible refine Fn.go λ g=>?_);go_ret;exact ZM.mk rfl grown
 ·rw [if_neg h0];go_wp2_with fail;go_ret;exact ZM.mk rfl grown
theorem zq(n:Int):(XL n).size<=8:=by
 unfold XL;split
 ·rw [ZF];omega
 ·exact Nat.zero_le _
theorem Zer(s:ByteArray)(m:Nat)(hm:0<m):(QG s m).size<=s.size+m:=by
 unfold QG;rw [Zs,Zr];have:=Nat.mod_lt (m-s.size%m) hm;omega
theorem Pt.bytes_le(p:Pt):p.bytes.size<=120:=by
 have:=ZfN p;have:=Zer p.raw 64 (by omega);unfold Pt.bytes;split
 ·omega
 ·exact Nat.zero_le _
def Nd.bytes(n:Nd):ByteArray:=if (XL n.size).toList.isEmpty=true then jg else if (n.root.err !=0)=true then jg else QG (XL n.size++XL 1++n.root.bytes) 128
def Nd.err(n:Nd):Int:=if (XL n.size).toList.isEmpty=true then 1 else n.root.err
instance qY(n:Nd)(W:World):Fn 118 #[.agg n.cs] W (.tuple #[.string n.bytes,.int .i64 n.err]):=by
 refine⟨?_⟩;have b0:=zq n.size;have b1:=zq 1;have b2:=n.root.bytes_le;have b3:=Zs (XL n.size) (XL 1);have b4:=Zs (XL n.size++XL 1) n.root.bytes;haveI:∀ W,Fn 119 #[.string (XL n.size++XL 1++n.root.bytes),.int .i64 128] W (.string (QG (XL n.size++XL 1++n.root.bytes) 128)):=j6 _ 128 (by omega) (by omega) (by omega)
 go_in
 go_wp2_with(first|(with_reducible refine Fn.go λ g=>?_)|((with_reducible apply Za);(·exact rfl);(·exact ii)))
 all_goals
  go_ret2;refine ZM.mk ?_ grown
  simp_all [Nd.bytes,Nd.err,jg]
theorem Pt.one_rd{p:Pt}(h:p.fit):Xi p.bytes 16 4=p.one:=by
 obtain⟨a1,a2,a3,a4,a5,a6,a7⟩:=Pt.fit_in h;have h1:0<=p.one/\p.one<256^4:=by unfold Pt.one;split<;>omega
 have l2:=Pt.list h;rw [<-List.append_assoc,<- List.append_assoc,<- List.append_assoc]at l2;exact ZY p.bytes _ _ p.one 16 4 h1.1 h1.2 (by omega) (by omega) (by simp only [List.length_append,Zi,ZF];rfl) l2
theorem Pt.zero_rd{p:Pt}(h:p.fit):Qd p.bytes 56=true:=by
 refine J4 _ _ ?_;have l2:=Pt.list h
 iterate 9 rw [<-List.append_assoc]at l2
 rw [l2,List.drop_left' (by simp only [List.length_append,Zi,ZF];rfl),Yj];intro b hb;exact(List.mem_replicate.1 hb).2
class Zgo(p:Pt):Prop where
 h:p.fit
instance ZnO(p:Pt)(W:World)[h:Zgo p]:Fn 201 #[.string p.bytes] W (.tuple #[.agg p.cs,.int .i64 0]):=by
 have:=ZeX p.bytes (Pt.bytes_size h.h) (by
  rw [Pt.one_rd h.h];obtain⟨_,_,_,_,_,a6,a7⟩:=Pt.fit_in h.h;unfold Pt.one
  split<;>omega) (Pt.zero_rd h.h) W
 rwa [Pt.eq_rd h.h]at this
theorem Pt.err_fit(p:Pt)[h:Zgo p]:p.err=0:=if_pos h.h.1
class Qi(l:Nat->Pt):Prop where
 h:∀ k,(l k).fit
instance Zqw(l:Nat->Pt)(k:Nat)[h:Qi l]:Zgo (l k):=⟨h.h k⟩
def QI(l:Nat->Pt):ByteArray:=⟨((l 0).bytes.data.toList++(l 1).bytes.data.toList++(l 2).bytes.data.toList++(l 3).bytes.data.toList).toArray⟩
class Qf(n:Nat)(h:Hl):Prop where
 out:∀ k,k<n->h k=none
instance ZnR(n:Nat)(X:World)(h' h:Hl)[x:Ext h' h X.heap.size][o:Qf n h][u:JL n X]:Qf n h':=⟨λ k hk=>x.out k (Nat.lt_of_lt_of_le hk u.h) (o.out k hk)⟩
theorem Jf{n:Nat}{W X w':World}{h:Hl}[o:Qf n h][u:JL n X](b:Below n W X)(m:Xz h X w'):Below n W w' :=
 ⟨m.os.trans b.os,m.tape.trans b.tape,m.output.trans b.output,Nat.le_trans b.size m.size,λ k hk=>(m.block k (Nat.lt_of_lt_of_le hk u.h) (o.out k hk)).trans (b.block k hk)⟩
theorem Zjj{n:Nat}{W X c:World}{h:Hl}[o:Qf n h][u:JL n X](b:Below n W X):Below n W (md X h c):=Jf b (Zh7 X h c)
theorem Zkm(w:World)(b:Nat)[k:ZX w b]:∃ h:Hl,Has (w.alloc (.cells #[.pointer none,.slice none 0 0] 160)) h/\Bl b [] h/\Qf b h:=by
 have hk:=k.h;subst hk;obtain⟨h,a,b,c⟩:=ZkA w;exact⟨h,a,b,⟨c⟩⟩
theorem Qf.le{n m:Nat}{h:Hl}(o:Qf n h)(hm:m<=n):Qf m h:=⟨λ k hk=>o.out k (by omega)⟩
instance Zmc(l:Nat->Pt)(W:World)[hf:Qi l]:Fn 216 #[.agg (YN l)] W (.string (QI l)):=by
 refine⟨?_⟩;have e0:=(l 0).err_fit;have e1:=(l 1).err_fit;have e2:=(l 2).err_fit;have e3:=(l 3).err_fit;have z0:=Pt.bytes_size (hf.h 0);have z1:=Pt.bytes_size (hf.h 1);have z2:=Pt.bytes_size (hf.h 2);have z3:=Pt.bytes_size (hf.h 3);obtain⟨h0,a0,i0,o0⟩:=Zkm (W.alloc (.cells (YN l) 291)) (W.heap.size+1);have i0:=Lib.hid i0;haveI:Qf W.heap.size h0:=o0.le (by omega)
 go_in
 go_wp2_with((with_reducible apply Za);(·exact rfl);(·exact ii));refine wp_loop_rounds 5 ?_
 iterate 1 (rw [rounds_succ];go_wp2_with(first|(with_reducible refine Fn.go λ g=>?_)|((with_reducible apply Za);(·exact rfl);(·exact ii))))
 refine(zA h0 _ _ _ i0.out _ (by simp;omega)).mono ?_;rintro e w' ⟨rfl,t⟩;obtain⟨c0,h1,rfl,ia0,x0,i1⟩:=t.get;clear t;have i1:=Lib.hid i1;haveI:Qf W.heap.size h1:=ii;dsimp only;go_wp2_with fail
 iterate 1 (rw [rounds_succ];go_wp2_with(first|(with_reducible refine Fn.go λ g=>?_)|((with_reducible apply Za);(·exact rfl);(·exact ii))))
 refine(zA h1 _ _ _ i1.out _ (by simp;omega)).mono ?_;rintro e w' ⟨rfl,t⟩;obtain⟨c1,h2,rfl,ia1,x1,i2⟩:=t.get;clear t;have i2:=Lib.hid i2;haveI:Qf W.heap.size h2:=ii;dsimp only;go_wp2_with fail
 iterate 1 (rw [rounds_succ];go_wp2_with(first|(with_reducible refine Fn.go λ g=>?_)|((with_reducible apply Za);(·exact rfl);(·exact ii))))
 refine(zA h2 _ _ _ i2.out _ (by simp;omega)).mono ?_;rintro e w' ⟨rfl,t⟩;obtain⟨c2,h3,rfl,ia2,x2,i3⟩:=t.get;clear t;have i3:=Lib.hid i3;haveI:Qf W.heap.size h3:=ii;dsimp only;go_wp2_with fail
 iterate 1 (rw [rounds_succ];go_wp2_with(first|(with_reducible refine Fn.go λ g=>?_)|((with_reducible apply Za);(·exact rfl);(·exact ii))))
 refine(zA h3 _ _ _ i3.out _ (by simp;omega)).mono ?_;rintro e w' ⟨rfl,t⟩;obtain⟨c3,h4,rfl,ia3,x3,i4⟩:=t.get;clear t;have i4:=Lib.hid i4;haveI:Qf W.heap.size h4:=ii;dsimp only;go_wp2_with fail
 iterate 1 (rw [rounds_succ];go_wp2_with fail)
 refine(ZhV h4 _ _ i4.out _).mono ?_;rintro e w' ⟨rfl,m⟩;dsimp only;go_wp2_with fail;go_ret;refine ZM.mk rfl (Jf (n:=W.heap.size) (h:=h4) ?_ m)
 iterate 4 (refine Zjj ?_;(repeat' (first|(with_reducible exact Below.refl _ _)|(with_reducible refine Xc ?_ _)|(with_reducible refine Z5 ?_ _)|(with_reducible refine Below.setCell ?_ ?_ _)|(with_reducible refine Below.drew ?_)|(simp [go_sem];done)|(simp [go_sem];omega))))
instance:XF 291 48:=⟨λ W b o cs _=>ZS W b o 48 cs _ _ Tryz.underlying291 rfl (by kernel_rfl)⟩
instance Zr3(W:World)(b:Nat)(t:TypeId)[k:ZX W b]:JP b Y9 (W.alloc (.cells #[.int .i64 0,.int .i64 0,.int .i64 0,.int .i64 0,.bool false,.int .i64 0,.int .i64 0,.int .i64 0,.int .u64 0,.int .u64 0,.int .u64 0,.int .u64 0,.int .i64 0,.int .i64 0,.int .i64 0,.int .i64 0,.bool false,.int .i64 0,.int .i64 0,.int .i64 0,.int .u64 0,.int .u64 0,.int .u64 0,.int .u64 0,.int .i64 0,.int .i64 0,.int .i64 0,.int .i64 0,.bool false,.int .i64 0,.int .i64 0,.int .i64 0,.int .u64 0,.int .u64 0,.int .u64 0,.int .u64 0,.int .i64 0,.int .i64 0,.int .i64 0,.int .i64 0,.bool false,.int .i64 0,.int .i64 0,.int .i64 0,.int .u64 0,.int .u64 0,.int .u64 0,.int .u64 0] t)):=⟨ii,t,by rw [<-k.h];exact alloc_heap_new _ _⟩
theorem mid(A B C:List UInt8)(i j:Nat)(hA:A.length=i)(hB:B.length=j-i):((A++(B++C)).drop i).take (j-i)=B:=by
 rw [List.drop_left' hA,List.take_left' hB]
theorem Zab(l:Nat->Pt)[h:Qi l]:(QI l).size=256/\(QI l).extract 0 64=(l 0).bytes/\(QI l).extract 64 128=(l 1).bytes/\(QI l).extract 128 192=(l 2).bytes/\(QI l).extract 192 256=(l 3).bytes:=by
 have z0:=Pt.bytes_size (h.h 0);have z1:=Pt.bytes_size (h.h 1);have z2:=Pt.bytes_size (h.h 2);have z3:=Pt.bytes_size (h.h 3);rw [<-Zi]at z0 z1 z2 z3;have e:(QI l).data.toList=[]++((l 0).bytes.data.toList++((l 1).bytes.data.toList++((l 2).bytes.data.toList++((l 3).bytes.data.toList++[])))):=by simp [QI]
 refine⟨by rw [<-Zi,e];simp only [List.length_append,List.length_nil];omega,?_,?_,?_,?_⟩
 all_goals
  apply Yu;rw [Lib.extract_eq,e]
 ·exact mid _ _ _ _ _ rfl (by omega)
 ·rw [<-List.append_assoc];exact mid _ _ _ _ _ (by simp only [List.length_append,List.length_nil];omega) (by omega)
 ·rw [<-List.append_assoc,<- List.append_assoc];exact mid _ _ _ _ _ (by simp only [List.length_append,List.length_nil];omega) (by omega)
 ·rw [<-List.append_assoc,<- List.append_assoc,<- List.append_assoc];exact mid _ _ _ _ _ (by simp only [List.length_append,List.length_nil];omega) (by omega)
theorem Zj6(l m:Nat->Pt):YN (upd (upd (upd (upd m 0 (l 0)) 1 (l 1)) 2 (l 2)) 3 (l 3))=YN l:=by simp [YN,upd]
instance ZmT(l:Nat->Pt)(W:World)[hf:Qi l]:Fn 259 #[.string (QI l)] W (.tuple #[.iface 291 (.agg (YN l)),.int .i64 0]):=by
 refine⟨?_⟩;obtain⟨z,e0,e1,e2,e3⟩:=Zab l;haveI:∀ W,Fn 201 #[.string ((QI l).extract 0 64)] W (.tuple #[.agg (l 0).cs,.int .i64 0]):=by rw [e0];intro W;infer_instance
 haveI:∀ W,Fn 201 #[.string ((QI l).extract 64 128)] W (.tuple #[.agg (l 1).cs,.int .i64 0]):=by rw [e1];intro W;infer_instance
 haveI:∀ W,Fn 201 #[.string ((QI l).extract 128 192)] W (.tuple #[.agg (l 2).cs,.int .i64 0]):=by rw [e2];intro W;infer_instance
 haveI:∀ W,Fn 201 #[.string ((QI l).extract 192 256)] W (.tuple #[.agg (l 3).cs,.int .i64 0]):=by rw [e3];intro W;infer_instance
 clear e0 e1 e2 e3
 go_in
 go_wp2_with fail;refine wp_loop_rounds 5 ?_
 iterate 5 (rw [rounds_succ];go_wp2_with(first|(with_reducible refine Fn.go λ g=>?_)|((with_reducible apply Za);(·exact rfl);(·exact ii))|((with_reducible apply Zb);(·exact rfl);(·exact rfl);(·exact ii))))
 go_ret2;exact ZM.mk (by rw [Zj6];rfl) grown
theorem Yg{s:ByteArray}(h:s.size≠0):s.toList.isEmpty=false:=by
 rw [ByteArray.toList_eq];cases e:s.data.toList with
 |nil=>rw [<-Zi,e]at h;exact absurd rfl h
 |cons=>rfl
theorem Zl0(s:ByteArray)(hs:s.size≠0)(h4:s.size%64=0)(h2:s.size<=256)(W:World):Fn 233 #[.string s,.int .i64 0] W (.tuple #[.iface 316 (.agg #[.string s]),.int .i64 0]):=by
 refine⟨?_⟩;have h0:s.toList.isEmpty=false:=Yg hs
 go_in
 go_wp2_with fail;go_ret2;exact ZM.mk rfl grown
theorem Zm5(l:Nat->Pt)[hf:Qi l](k:Int)(h1:1<=k)(h3:k<=3)(W:World):Fn 233 #[.string (QI l),.int .i64 k] W (.tuple #[.iface 291 (.agg (YN l)),.int .i64 0]):=by
 refine⟨?_⟩;have z:=(Zab l).1;have h0:(QI l).toList.isEmpty=false:=Yg (by omega)
 go_in
 go_wp2_with(with_reducible refine Fn.go λ g=>?_);go_ret2;exact ZM.mk rfl grown
section
variable(n:Nd)
@[go_sem] theorem ZrW:n.cs[1]?=some (.int .i64 n.root.ag):=rfl
@[go_sem] theorem Zq5:n.cs[2]?=some (.int .i64 n.root.aa):=rfl
@[go_sem] theorem Zq2:n.cs[3]?=some (.int .i64 n.root.bg):=rfl
@[go_sem] theorem Zrv:n.cs[4]?=some (.int .i64 n.root.ba):=rfl
@[go_sem] theorem ZrO:n.cs[8]?=some (.int .i64 n.root.birth):=rfl
@[go_sem] theorem Zq4:n.cs[9]?=some (.int .u64 n.root.sum.a):=rfl
@[go_sem] theorem ZqP:n.cs[10]?=some (.int .u64 n.root.sum.b):=rfl
@[go_sem] theorem ZpJ:n.cs[11]?=some (.int .u64 n.root.sum.c):=rfl
@[go_sem] theorem ZqQ:n.cs[12]?=some (.int .u64 n.root.sum.d):=rfl
end
class Yv(n:Nd):Prop where
 lo:0<=n.size
 hi:n.size<=4611686018427387903
 root:n.root.fit
instance Zl6(n:Nd)[h:Yv n]:Zgo n.root:=⟨h.root⟩
theorem Ju{n:Int}(h0:0<=n)(h1:n<=4611686018427387903):XL n=Qp n 8:=if_pos ⟨h0,h1⟩
theorem Nd.list(n:Nd)[h:Yv n]:n.bytes.data.toList=(Qp n.size 8).data.toList++((Qp 1 8).data.toList++(n.root.bytes.data.toList++List.replicate 48 0)):=by
 have e0:=Ju h.lo h.hi;have e1:XL 1=Qp 1 8:=Ju (by omega) (by omega);have e2:(XL n.size).toList.isEmpty=false:=Yg (by rw [e0,ZF];omega);have e3:=n.root.err_fit;have e4:=Pt.bytes_size h.root;have e5:(Qp n.size 8++Qp 1 8++n.root.bytes).size=80:=by rw [Zs,Zs,ZF,ZF,e4]
 unfold Nd.bytes;rw [e2,e3,e0,e1,if_neg (by simp),if_neg (by simp),QG,ZQ,e5,Yj,ZQ,ZQ,List.append_assoc,List.append_assoc]
theorem Nd.bytes_size(n:Nd)[h:Yv n]:n.bytes.size=128:=by
 have e4:=Pt.bytes_size h.root;rw [<-Zi]at e4;rw [<-Zi,n.list];simp only [List.length_append,Zi,ZF,List.length_replicate]at *
 omega
theorem Nd.err_fit(n:Nd)[h:Yv n]:n.err=0:=by
 have e2:(XL n.size).toList.isEmpty=false:=Yg (by rw [Ju h.lo h.hi,ZF];omega);unfold Nd.err;rw [e2,n.root.err_fit];rfl
theorem qM(b:UInt8)(hb:b≠0):∀ l:List UInt8,b∈l->b∈l.dropWhile (·== 0)
 | [],h=>by cases h
 |x::l,h=>by
  rw [List.dropWhile_cons];split
  ·rename_i hx;rcases List.mem_cons.1 h with rfl|h
   ·exact absurd (by simpa using hx) hb
   ·exact qM b hb l h
  ·exact h
theorem UH(s:ByteArray)(i:Int)(b:UInt8)(hb:b≠0)(h:b∈s.data.toList.drop i.toNat):Qd s i=false:=by
 cases e:Qd s i with
 |false=>rfl
 |true =>
  exfalso
  unfold Qd Ve at e;rw [Lib.extract_from,ByteArray.toList_eq]at e;have e:Lib.trimB (s.data.toList.drop i.toNat) 0=[]:=by simpa using e
  unfold Lib.trimB Lib.trimLeftB Lib.trimRightB at e;have:=qM b hb _ (List.mem_reverse.2 (qM b hb _ (List.mem_reverse.2 h)));rw [e]at this;cases this
theorem Nd.fields(n:Nd)[h:Yv n]:yS n.bytes 0=n.size/\zQ n.bytes 0=0/\qe n.bytes 0=8/\yS n.bytes 8=1/\zQ n.bytes 8=0/\qe n.bytes 8=16/\Jg n.bytes 16 64=n.root.bytes/\Jj n.bytes 16 64=0/\X8 n.bytes 16 64=80/\Qd n.bytes 80=true/\Qd n.bytes 0=false:=by
 have hz:=n.bytes_size;have hl:=n.list;have e4:=Pt.bytes_size h.root;have f0:=ZY n.bytes [] _ n.size 0 8 h.lo (by have:=h.hi;simp;omega) (by omega) (by omega) rfl hl;have f1:=ZY n.bytes _ _ 1 8 8 (by omega) (by decide) (by omega) (by omega) (by rw [Zi,ZF];rfl) hl;have h0:=h.lo;have h1:=h.hi;refine⟨?_,?_,?_,?_,?_,?_,?_,?_,?_,?_,?_⟩
 ·unfold yS;rw [hz,f0];exact if_pos (by omega)
 ·unfold zQ;rw [hz,f0,if_pos (by omega)];exact if_pos h1
 ·unfold qe;rw [hz,f0];exact if_pos (by omega)
 ·unfold yS;rw [hz,f1];exact if_pos (by omega)
 ·unfold zQ;rw [hz,f1,if_pos (by omega)];exact if_pos (by omega)
 ·unfold qe;rw [hz,f1];exact if_pos (by omega)
 ·unfold Jg;rw [hz,if_pos (by omega)];apply Yu;rw [<-Zi]at e4;rw [Lib.extract_eq,hl,<- List.append_assoc];exact mid _ _ _ _ _ (by simp only [List.length_append,Zi,ZF];rfl) (by rw [e4];rfl)
 ·unfold Jj;rw [hz];exact if_pos (by omega)
 ·unfold X8;rw [hz];exact if_pos (by omega)
 ·refine J4 _ _ ?_;rw [hl,<- List.append_assoc,<- List.append_assoc,List.drop_left' (by rw [<-Zi]at e4;simp only [List.length_append,Zi,ZF]at *;omega)];exact λ b hb=>(List.mem_replicate.1 hb).2
 ·refine UH _ _ 1 (by decide) ?_;rw [hl];simp only [List.drop_zero,Int.toNat_zero,List.mem_append];exact .inr (.inl (by decide))
theorem Ys{P:Program}(W:World)(b o z:Nat)(cs:Array Value)(t:TypeId)(d:TypeDesc)[h:ZJ b o cs z W](hu:P.underlying t=some d)(hd:(match d with | .struct _ | .array _ _=>true|_=>false)=true)(hi:(P.info? t).map (·.size)=some z) :
  (loadVar t ⟨b,o,none⟩).run P W=.ok (.agg cs) W:=by
 have:=ZS (P:=P) W b o z cs t d hu hd hi;simpa [Instr.loadAt,Instr.sureAddr]using this
theorem Jp{fn:Func}{p u v:Tmp}(h:fn.results=#[.cell p 52,.tmp u,.tmp v])(tmps:Array Value)(w:World)(b:Nat)(cs:Array Value)(hp:tmps.getD p undef=.pointer (some ⟨b,0,none⟩))(hs:ZJ b 0 cs 13 w) :
  (results fn tmps).run Tryz.prog w=.ok (.tuple #[.agg cs,tmps.getD u undef,tmps.getD v undef]) w:=by
 have hp':tmps[p]?.getD undef=.pointer (some ⟨b,0,none⟩):=by simpa using hp
 unfold results;rw [h];simp [hp',asAddr,Ys (P:=Tryz.prog) w b 0 13 cs _ _ Tryz.underlying52 rfl (by kernel_rfl)]
theorem qm(n:Nd)[h:Yv n](W:World):Fn 142 #[.string n.bytes] W (.tuple #[.agg n.cs,.bool true,.int .i64 0]):=by
 refine⟨?_⟩;have hz:=n.bytes_size;obtain⟨a0,a1,a2,a3,a4,a5,a6,a7,a8,a9,aa⟩:=n.fields;haveI:Bd n.bytes 0:=⟨by omega,by omega,by omega⟩
 haveI:Bd n.bytes 8:=⟨by omega,by omega,by omega⟩
 haveI:Bd n.bytes 16:=⟨by omega,by omega,by omega⟩
 haveI:Bd n.bytes 80:=⟨by omega,by omega,by omega⟩
 haveI:∀(b:Nat)(w:World) [yc b n.bytes 16 w],yF 140 #[.pointer (some ⟨b,0,none⟩),.int .i64 64] w (.tuple #[.string n.root.bytes,.int .i64 0]) (w.setCell ⟨b,1,none⟩ (.int .i64 80)):=by
  intro b w i;have:=zF b n.bytes 16 64 (by omega) (by omega) w
  rwa [a6,a7,a8]at this
 go_in
 go_wp2_with(first|(with_reducible refine Fn.go λ g=>?_)|(with_reducible refine yF.go λ g=>?_)|(with_reducible refine FnX.go ?_)|((with_reducible apply Za);(·exact rfl);(·exact ii))|((with_reducible apply Xb);(·exact rfl);(·exact rfl)));refine bodyPost_ret ?_ rfl ⟨rfl,grown⟩;exact Eq.trans (Jp Tryz.results142 _ _ W.heap.size _ rfl ii) rfl
instance jC(n:Nd)[h:Yv n](W:World):Fn 142 #[.string n.bytes] W (.tuple #[.agg n.cs,.bool true,.int .i64 0]):=qm n W
def Nd.none:Nd:=⟨0,Pt.none⟩
instance yh(W:World):Fn 142 #[.string (Zx 128)] W (.tuple #[.agg Nd.none.cs,.bool false,.int .i64 0]):=by
 refine⟨?_⟩;have hz:Qd (Zx 128) 0=true:=J4 _ _ (by rw [Yj];intro b hb;exact(List.mem_replicate.1 (List.mem_of_mem_drop hb)).2);have hs:=Zr 128;haveI:Bd (Zx 128) 0:=⟨by omega,by omega,by omega⟩
 generalize Zx 128=s at *
 go_in
 go_wp2_with(first|(with_reducible refine Fn.go λ g=>?_)|(with_reducible refine FnX.go ?_)|(with_reducible apply Zj));refine bodyPost_ret ?_ rfl ⟨rfl,grown⟩;exact Eq.trans (Jp Tryz.results142 _ _ W.heap.size _ rfl ii) rfl
end Go.Proofs.YtlfjdjndhcmliaaGreatDoor
