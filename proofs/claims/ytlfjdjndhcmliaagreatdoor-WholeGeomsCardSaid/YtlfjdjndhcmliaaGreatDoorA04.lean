/- WholeGeoms, part 4. -/
import Derived.Test.YtlfjdjndhcmliaaGreatDoorA03
import Derived.Test.YtlfjdjndhcmliaaGreatDoorA00
import Derived.Test.YtlfjdjndhcmliaaGreatDoorA01
set_option maxRecDepth 100000
set_option maxHeartbeats 4000000
set_option linter.all false
namespace Go.Proofs.YtlfjdjndhcmliaaGreatDoor
open Go.RowKit Go.Sort
class Sz4 (s:ByteArray):Prop where
 h:s.size<=65536
theorem dropW_zero (l:List UInt8) (h:∀ b∈l,b=0):l.dropWhile (·== 0)=[]:=by
 induction l with
 | nil=>rfl
 | cons x l ih=>rw [h x (by simp)];exact ih λ b hb=>h b (by simp [hb])
theorem zeroI_of (s:ByteArray) (i:Int) (h:∀ b∈s.data.toList.drop i.toNat,b=0):zeroI s i=true:=by
 have e:trimS (s.extract i.toNat s.size)=⟨#[]⟩:=by
  unfold trimS
  rw [Lib.extract_from,Lib.trimB,Lib.trimRightB,dropW_zero _ (λ b hb=>h b (by simpa using hb))]
  rfl
 unfold zeroI
 rw [e,ByteArray.toList,ByteArray.toList.loop]
 rfl
theorem zerosB_list (n:Nat):(zerosB n).data.toList=List.replicate n 0:=by
 unfold zerosB
 simp only []
 induction n with
 | zero=>rfl
 | succ n ih=>simp [Lib.repeatL,List.replicate_succ] at *;try exact ih
instance pbytes_p (p:Pt) (W:World):Fn 172 #[.agg p.cs] W (.tuple #[.string p.bytes,.int .i64 p.err]):=pbytes_fn p.ag p.aa p.bg p.ba p.two p.size p.level p.birth p.sum W
def lvl (n:Int):Int:=if n<=256 then 0 else if n<=1024 then 1 else if n<=4096 then 2 else 3
instance level_fn (n:Int) (W:World):Fn 161 #[.int .i64 n] W (.int .i64 (lvl n)):=by
 refine ⟨?_⟩
 unfold lvl
 go_enter Tryz.func161,Tryz.ntmps161
 by_cases h0:n<=256
 ·rw [if_pos h0]
  go_wp2_with fail
  refine wp_loop_rounds 4 ?_
  iterate 1 (rw [rounds_succ];go_wp2_with fail)
  go_ret
  exact Ret.mk rfl grown
 ·rw [if_neg h0]
  by_cases h1:n<=1024
  ·rw [if_pos h1]
   go_wp2_with fail
   refine wp_loop_rounds 4 ?_
   iterate 2 (rw [rounds_succ];go_wp2_with fail)
   go_ret
   exact Ret.mk rfl grown
  ·rw [if_neg h1]
   by_cases h2:n<=4096
   ·rw [if_pos h2]
    go_wp2_with fail
    refine wp_loop_rounds 4 ?_
    iterate 3 (rw [rounds_succ];go_wp2_with fail)
    go_ret
    exact Ret.mk rfl grown
   ·rw [if_neg h2]
    by_cases h3:n<=16384
    all_goals
     go_wp2_with fail
     refine wp_loop_rounds 4 ?_
     iterate 4 (rw [rounds_succ];go_wp2_with fail)
     go_ret
     exact Ret.mk rfl grown
instance pad64 (s:ByteArray) (W:World) [h:Sz4 s]:Fn 119 #[.string s,.int .i64 64] W (.string (padS s 64)):=pad_any s 64 (by omega) (by omega) h.h W
def dataS (s:ByteArray):ByteArray:=if s.size<=256 then padS s 64 else nilB
instance data_fn (s:ByteArray) (W:World) [hs:Sz4 s]:Fn 217 #[.agg #[.string s]] W (.string (dataS s)):=by
 refine ⟨?_⟩
 unfold dataS
 go_enter Tryz.func217,Tryz.ntmps217
 by_cases h0:s.size<=256
 ·rw [if_pos h0]
  go_wp2_with (with_reducible refine Fn.go λ g=>?_)
  go_ret
  exact Ret.mk rfl grown
 ·rw [if_neg h0]
  go_wp2_with fail
  go_ret
  exact Ret.mk rfl grown
theorem intS_size (n:Int):(intS n).size<=8:=by
 unfold intS
 split
 ·rw [leS_size];omega
 ·exact Nat.zero_le _
theorem padS_size (s:ByteArray) (m:Nat) (hm:0 < m):(padS s m).size<=s.size+m:=by
 unfold padS
 rw [cat_size,zerosB_size]
 have:=Nat.mod_lt (m - s.size % m) hm
 omega
theorem Pt.bytes_le (p:Pt):p.bytes.size<=120:=by
 have:=raw_size p
 have:=padS_size p.raw 64 (by omega)
 unfold Pt.bytes
 split
 ·omega
 ·exact Nat.zero_le _
def Nd.bytes (n:Nd):ByteArray:=if (intS n.size).toList.isEmpty=true then nilB else if (n.root.err != 0)=true then nilB else padS (intS n.size++intS 1++n.root.bytes) 128
def Nd.err (n:Nd):Int:=if (intS n.size).toList.isEmpty=true then 1 else n.root.err
instance nbytes_fn (n:Nd) (W:World):Fn 118 #[.agg n.cs] W (.tuple #[.string n.bytes,.int .i64 n.err]):=by
 refine ⟨?_⟩
 have b0:=intS_size n.size
 have b1:=intS_size 1
 have b2:=n.root.bytes_le
 have b3:=cat_size (intS n.size) (intS 1)
 have b4:=cat_size (intS n.size++intS 1) n.root.bytes
 haveI:∀ W,Fn 119 #[.string (intS n.size++intS 1++n.root.bytes),.int .i64 128] W (.string (padS (intS n.size++intS 1++n.root.bytes) 128)):=pad_any _ 128 (by omega) (by omega) (by omega)
 go_enter Tryz.func118,Tryz.ntmps118
 go_wp2_with (first | (with_reducible refine Fn.go λ g=>?_) | ((with_reducible apply wpList_load);(·exact rfl);(·exact ii)))
 all_goals
  go_ret2
  refine Ret.mk ?_ grown
  simp_all [Nd.bytes,Nd.err,nilB]
theorem Pt.one_rd {p:Pt} (h:p.fit):numI p.bytes 16 4=p.one:=by
 obtain ⟨a1,a2,a3,a4,a5,a6,a7⟩:=Pt.fit_in h
 have h1:0<=p.one/\p.one < 256 ^ 4:=by unfold Pt.one;split <;> omega
 have l2:=Pt.list h
 rw [<-List.append_assoc,<- List.append_assoc,<- List.append_assoc] at l2
 exact numI_field p.bytes _ _ p.one 16 4 h1.1 h1.2 (by omega) (by omega) (by simp only [List.length_append,size_list,leS_size];rfl) l2
theorem Pt.zero_rd {p:Pt} (h:p.fit):zeroI p.bytes 56=true:=by
 refine zeroI_of _ _ ?_
 have l2:=Pt.list h
 iterate 9 rw [<-List.append_assoc] at l2
 rw [l2,List.drop_left' (by simp only [List.length_append,size_list,leS_size];rfl),zerosB_list]
 intro b hb
 exact (List.mem_replicate.1 hb).2
class PFit (p:Pt):Prop where
 h:p.fit
instance pread_p (p:Pt) (W:World) [h:PFit p]:Fn 201 #[.string p.bytes] W (.tuple #[.agg p.cs,.int .i64 0]):=by
 have:=pread_yes p.bytes (Pt.bytes_size h.h) (by
  rw [Pt.one_rd h.h]
  obtain ⟨_,_,_,_,_,a6,a7⟩:=Pt.fit_in h.h
  unfold Pt.one
  split <;> omega) (Pt.zero_rd h.h) W
 rwa [Pt.eq_rd h.h] at this
theorem Pt.err_fit (p:Pt) [h:PFit p]:p.err=0:=if_pos h.h.1
class Fit4 (l:Nat->Pt):Prop where
 h:∀ k,(l k).fit
instance fitAt (l:Nat->Pt) (k:Nat) [h:Fit4 l]:PFit (l k):=⟨h.h k⟩
def idxS (l:Nat->Pt):ByteArray:=⟨((l 0).bytes.data.toList++(l 1).bytes.data.toList++(l 2).bytes.data.toList++(l 3).bytes.data.toList).toArray⟩
class OutB (n:Nat) (h:Hl):Prop where
 out:∀ k,k < n->h k=none
instance outBExt (n:Nat) (X:World) (h' h:Hl) [x:Ext h' h X.heap.size] [o:OutB n h] [u:Upto n X]:OutB n h':=⟨λ k hk=>x.out k (Nat.lt_of_lt_of_le hk u.h) (o.out k hk)⟩
theorem belowMod {n:Nat} {W X w':World} {h:Hl} [o:OutB n h] [u:Upto n X] (b:Below n W X) (m:Mod h X w'):Below n W w' :=
 ⟨m.os.trans b.os,m.tape.trans b.tape,m.output.trans b.output,Nat.le_trans b.size m.size,λ k hk=>(m.block k (Nat.lt_of_lt_of_le hk u.h) (o.out k hk)).trans (b.block k hk)⟩
theorem belowMd {n:Nat} {W X c:World} {h:Hl} [o:OutB n h] [u:Upto n X] (b:Below n W X):Below n W (md X h c):=belowMod b (md_mod X h c)
theorem bl_at (w:World) (b:Nat) [k:SizeIs w b]:∃ h:Hl,Has (w.alloc (.cells #[.pointer none,.slice none 0 0] 160)) h/\Bl b [] h/\OutB b h:=by
 have hk:=k.h
 subst hk
 obtain ⟨h,a,b,c⟩:=bl_new w
 exact ⟨h,a,b,⟨c⟩⟩
theorem OutB.le {n m:Nat} {h:Hl} (o:OutB n h) (hm:m<=n):OutB m h:=⟨λ k hk=>o.out k (by omega)⟩
instance itext_fn (l:Nat->Pt) (W:World) [hf:Fit4 l]:Fn 216 #[.agg (cs4 l)] W (.string (idxS l)):=by
 refine ⟨?_⟩
 have e0:=(l 0).err_fit
 have e1:=(l 1).err_fit
 have e2:=(l 2).err_fit
 have e3:=(l 3).err_fit
 have z0:=Pt.bytes_size (hf.h 0)
 have z1:=Pt.bytes_size (hf.h 1)
 have z2:=Pt.bytes_size (hf.h 2)
 have z3:=Pt.bytes_size (hf.h 3)
 obtain ⟨h0,a0,i0,o0⟩:=bl_at (W.alloc (.cells (cs4 l) 291)) (W.heap.size+1)
 have i0:=Lib.hid i0
 haveI:OutB W.heap.size h0:=o0.le (by omega)
 go_enter Tryz.func216,Tryz.ntmps216
 go_wp2_with ((with_reducible apply wpList_load);(·exact rfl);(·exact ii))
 refine wp_loop_rounds 5 ?_
 iterate 1 (rw [rounds_succ];go_wp2_with (first | (with_reducible refine Fn.go λ g=>?_) | ((with_reducible apply wpList_load);(·exact rfl);(·exact ii))))
 refine (write_h h0 _ _ _ i0.out _ (by simp;omega)).mono ?_
 rintro e w' ⟨rfl,t⟩
 obtain ⟨c0,h1,rfl,ia0,x0,i1⟩:=t.get
 clear t
 have i1:=Lib.hid i1
 haveI:OutB W.heap.size h1:=ii
 dsimp only
 go_wp2_with fail
 iterate 1 (rw [rounds_succ];go_wp2_with (first | (with_reducible refine Fn.go λ g=>?_) | ((with_reducible apply wpList_load);(·exact rfl);(·exact ii))))
 refine (write_h h1 _ _ _ i1.out _ (by simp;omega)).mono ?_
 rintro e w' ⟨rfl,t⟩
 obtain ⟨c1,h2,rfl,ia1,x1,i2⟩:=t.get
 clear t
 have i2:=Lib.hid i2
 haveI:OutB W.heap.size h2:=ii
 dsimp only
 go_wp2_with fail
 iterate 1 (rw [rounds_succ];go_wp2_with (first | (with_reducible refine Fn.go λ g=>?_) | ((with_reducible apply wpList_load);(·exact rfl);(·exact ii))))
 refine (write_h h2 _ _ _ i2.out _ (by simp;omega)).mono ?_
 rintro e w' ⟨rfl,t⟩
 obtain ⟨c2,h3,rfl,ia2,x2,i3⟩:=t.get
 clear t
 have i3:=Lib.hid i3
 haveI:OutB W.heap.size h3:=ii
 dsimp only
 go_wp2_with fail
 iterate 1 (rw [rounds_succ];go_wp2_with (first | (with_reducible refine Fn.go λ g=>?_) | ((with_reducible apply wpList_load);(·exact rfl);(·exact ii))))
 refine (write_h h3 _ _ _ i3.out _ (by simp;omega)).mono ?_
 rintro e w' ⟨rfl,t⟩
 obtain ⟨c3,h4,rfl,ia3,x3,i4⟩:=t.get
 clear t
 have i4:=Lib.hid i4
 haveI:OutB W.heap.size h4:=ii
 dsimp only
 go_wp2_with fail
 iterate 1 (rw [rounds_succ];go_wp2_with fail)
 refine (str_h h4 _ _ i4.out _).mono ?_
 rintro e w' ⟨rfl,m⟩
 dsimp only
 go_wp2_with fail
 go_ret
 refine Ret.mk rfl (belowMod (n:=W.heap.size) (h:=h4) ?_ m)
 iterate 4 (refine belowMd ?_;(repeat' (first | (with_reducible exact Below.refl _ _) | (with_reducible refine belowGrU ?_ _) | (with_reducible refine belowAlloc ?_ _) | (with_reducible refine Below.setCell ?_ ?_ _) | (with_reducible refine Below.drew ?_) | (simp [go_sem];done) | (simp [go_sem];omega))))
instance:AggTy 291 48:=⟨λ W b o cs _=>run_loadSub W b o 48 cs _ _ Tryz.underlying291 rfl (by kernel_rfl)⟩
instance arrZ (W:World) (b:Nat) (t:TypeId) [k:SizeIs W b]:Arr4 b none4 (W.alloc (.cells #[.int .i64 0,.int .i64 0,.int .i64 0,.int .i64 0,.bool false,.int .i64 0,.int .i64 0,.int .i64 0,.int .u64 0,.int .u64 0,.int .u64 0,.int .u64 0,.int .i64 0,.int .i64 0,.int .i64 0,.int .i64 0,.bool false,.int .i64 0,.int .i64 0,.int .i64 0,.int .u64 0,.int .u64 0,.int .u64 0,.int .u64 0,.int .i64 0,.int .i64 0,.int .i64 0,.int .i64 0,.bool false,.int .i64 0,.int .i64 0,.int .i64 0,.int .u64 0,.int .u64 0,.int .u64 0,.int .u64 0,.int .i64 0,.int .i64 0,.int .i64 0,.int .i64 0,.bool false,.int .i64 0,.int .i64 0,.int .i64 0,.int .u64 0,.int .u64 0,.int .u64 0,.int .u64 0] t)):=⟨ii,t,by rw [<-k.h];exact alloc_heap_new _ _⟩
theorem mid (A B C:List UInt8) (i j:Nat) (hA:A.length=i) (hB:B.length=j - i):((A++(B++C)).drop i).take (j - i)=B:=by
 rw [List.drop_left' hA,List.take_left' hB]
theorem idx_ext (l:Nat->Pt) [h:Fit4 l]:(idxS l).size=256/\(idxS l).extract 0 64=(l 0).bytes/\(idxS l).extract 64 128=(l 1).bytes/\(idxS l).extract 128 192=(l 2).bytes/\(idxS l).extract 192 256=(l 3).bytes:=by
 have z0:=Pt.bytes_size (h.h 0)
 have z1:=Pt.bytes_size (h.h 1)
 have z2:=Pt.bytes_size (h.h 2)
 have z3:=Pt.bytes_size (h.h 3)
 rw [<-size_list] at z0 z1 z2 z3
 have e:(idxS l).data.toList=[]++((l 0).bytes.data.toList++((l 1).bytes.data.toList++((l 2).bytes.data.toList++((l 3).bytes.data.toList++[])))):=by simp [idxS]
 refine ⟨by rw [<-size_list,e];simp only [List.length_append,List.length_nil];omega,?_,?_,?_,?_⟩
 all_goals
  apply ba_ext
  rw [Lib.extract_eq,e]
 ·exact mid _ _ _ _ _ rfl (by omega)
 ·rw [<-List.append_assoc];exact mid _ _ _ _ _ (by simp only [List.length_append,List.length_nil];omega) (by omega)
 ·rw [<-List.append_assoc,<- List.append_assoc];exact mid _ _ _ _ _ (by simp only [List.length_append,List.length_nil];omega) (by omega)
 ·rw [<-List.append_assoc,<- List.append_assoc,<- List.append_assoc];exact mid _ _ _ _ _ (by simp only [List.length_append,List.length_nil];omega) (by omega)
theorem upd_all (l m:Nat->Pt):cs4 (upd (upd (upd (upd m 0 (l 0)) 1 (l 1)) 2 (l 2)) 3 (l 3))=cs4 l:=by simp [cs4,upd]
instance index_fn (l:Nat->Pt) (W:World) [hf:Fit4 l]:Fn 259 #[.string (idxS l)] W (.tuple #[.iface 291 (.agg (cs4 l)),.int .i64 0]):=by
 refine ⟨?_⟩
 obtain ⟨z,e0,e1,e2,e3⟩:=idx_ext l
 haveI:∀ W,Fn 201 #[.string ((idxS l).extract 0 64)] W (.tuple #[.agg (l 0).cs,.int .i64 0]):=by rw [e0];intro W;infer_instance
 haveI:∀ W,Fn 201 #[.string ((idxS l).extract 64 128)] W (.tuple #[.agg (l 1).cs,.int .i64 0]):=by rw [e1];intro W;infer_instance
 haveI:∀ W,Fn 201 #[.string ((idxS l).extract 128 192)] W (.tuple #[.agg (l 2).cs,.int .i64 0]):=by rw [e2];intro W;infer_instance
 haveI:∀ W,Fn 201 #[.string ((idxS l).extract 192 256)] W (.tuple #[.agg (l 3).cs,.int .i64 0]):=by rw [e3];intro W;infer_instance
 clear e0 e1 e2 e3
 go_enter Tryz.func259,Tryz.ntmps259
 go_wp2_with fail
 refine wp_loop_rounds 5 ?_
 iterate 5 (rw [rounds_succ];go_wp2_with (first | (with_reducible refine Fn.go λ g=>?_) | ((with_reducible apply wpList_load);(·exact rfl);(·exact ii)) | ((with_reducible apply wpList_store);(·exact rfl);(·exact rfl);(·exact ii))))
 go_ret2
 exact Ret.mk (by rw [upd_all];rfl) grown
theorem ne_of_size {s:ByteArray} (h:s.size≠0):s.toList.isEmpty=false:=by
 rw [ByteArray.toList_eq]
 cases e:s.data.toList with
 | nil=>rw [<-size_list,e] at h;exact absurd rfl h
 | cons=>rfl
theorem read0 (s:ByteArray) (hs:s.size≠0) (h4:s.size % 64=0) (h2:s.size<=256) (W:World):Fn 233 #[.string s,.int .i64 0] W (.tuple #[.iface 316 (.agg #[.string s]),.int .i64 0]):=by
 refine ⟨?_⟩
 have h0:s.toList.isEmpty=false:=ne_of_size hs
 go_enter Tryz.func233,Tryz.ntmps233
 go_wp2_with fail
 go_ret2
 exact Ret.mk rfl grown
theorem readx (l:Nat->Pt) [hf:Fit4 l] (k:Int) (h1:1<=k) (h3:k<=3) (W:World):Fn 233 #[.string (idxS l),.int .i64 k] W (.tuple #[.iface 291 (.agg (cs4 l)),.int .i64 0]):=by
 refine ⟨?_⟩
 have z:=(idx_ext l).1
 have h0:(idxS l).toList.isEmpty=false:=ne_of_size (by omega)
 go_enter Tryz.func233,Tryz.ntmps233
 go_wp2_with (with_reducible refine Fn.go λ g=>?_)
 go_ret2
 exact Ret.mk rfl grown
section
variable (n:Nd)
@[go_sem] theorem ndc1:n.cs[1]?=some (.int .i64 n.root.ag):=rfl
@[go_sem] theorem ndc2:n.cs[2]?=some (.int .i64 n.root.aa):=rfl
@[go_sem] theorem ndc3:n.cs[3]?=some (.int .i64 n.root.bg):=rfl
@[go_sem] theorem ndc4:n.cs[4]?=some (.int .i64 n.root.ba):=rfl
@[go_sem] theorem ndc8:n.cs[8]?=some (.int .i64 n.root.birth):=rfl
@[go_sem] theorem ndc9:n.cs[9]?=some (.int .u64 n.root.sum.a):=rfl
@[go_sem] theorem ndc10:n.cs[10]?=some (.int .u64 n.root.sum.b):=rfl
@[go_sem] theorem ndc11:n.cs[11]?=some (.int .u64 n.root.sum.c):=rfl
@[go_sem] theorem ndc12:n.cs[12]?=some (.int .u64 n.root.sum.d):=rfl
end
class NFit (n:Nd):Prop where
 lo:0<=n.size
 hi:n.size<=4611686018427387903
 root:n.root.fit
instance nfitRoot (n:Nd) [h:NFit n]:PFit n.root:=⟨h.root⟩
theorem intS_in {n:Int} (h0:0<=n) (h1:n<=4611686018427387903):intS n=leS n 8:=if_pos ⟨h0,h1⟩
theorem Nd.list (n:Nd) [h:NFit n]:n.bytes.data.toList=(leS n.size 8).data.toList++((leS 1 8).data.toList++(n.root.bytes.data.toList++List.replicate 48 0)):=by
 have e0:=intS_in h.lo h.hi
 have e1:intS 1=leS 1 8:=intS_in (by omega) (by omega)
 have e2:(intS n.size).toList.isEmpty=false:=ne_of_size (by rw [e0,leS_size];omega)
 have e3:=n.root.err_fit
 have e4:=Pt.bytes_size h.root
 have e5:(leS n.size 8++leS 1 8++n.root.bytes).size=80:=by rw [cat_size,cat_size,leS_size,leS_size,e4]
 unfold Nd.bytes
 rw [e2,e3,e0,e1,if_neg (by simp),if_neg (by simp),padS,cat_list,e5,zerosB_list,cat_list,cat_list,List.append_assoc,List.append_assoc]
theorem Nd.bytes_size (n:Nd) [h:NFit n]:n.bytes.size=128:=by
 have e4:=Pt.bytes_size h.root
 rw [<-size_list] at e4
 rw [<-size_list,n.list]
 simp only [List.length_append,size_list,leS_size,List.length_replicate] at *
 omega
theorem Nd.err_fit (n:Nd) [h:NFit n]:n.err=0:=by
 have e2:(intS n.size).toList.isEmpty=false:=ne_of_size (by rw [intS_in h.lo h.hi,leS_size];omega)
 unfold Nd.err
 rw [e2,n.root.err_fit]
 rfl
theorem mem_dropW (b:UInt8) (hb:b≠0):∀ l:List UInt8,b∈l->b∈l.dropWhile (·== 0)
 | [],h=>by cases h
 | x::l,h=>by
  rw [List.dropWhile_cons]
  split
  ·rename_i hx
   rcases List.mem_cons.1 h with rfl | h
   ·exact absurd (by simpa using hx) hb
   ·exact mem_dropW b hb l h
  ·exact h
theorem zeroI_not (s:ByteArray) (i:Int) (b:UInt8) (hb:b≠0) (h:b∈s.data.toList.drop i.toNat):zeroI s i=false:=by
 cases e:zeroI s i with
 | false=>rfl
 | true =>
  exfalso
  unfold zeroI trimS at e
  rw [Lib.extract_from,ByteArray.toList_eq] at e
  have e:Lib.trimB (s.data.toList.drop i.toNat) 0=[]:=by simpa using e
  unfold Lib.trimB Lib.trimLeftB Lib.trimRightB at e
  have:=mem_dropW b hb _ (List.mem_reverse.2 (mem_dropW b hb _ (List.mem_reverse.2 h)))
  rw [e] at this
  cases this
theorem Nd.fields (n:Nd) [h:NFit n]:intV n.bytes 0=n.size/\intE n.bytes 0=0/\intA n.bytes 0=8/\intV n.bytes 8=1/\intE n.bytes 8=0/\intA n.bytes 8=16/\takeS n.bytes 16 64=n.root.bytes/\errI n.bytes 16 64=0/\advI n.bytes 16 64=80/\zeroI n.bytes 80=true/\zeroI n.bytes 0=false:=by
 have hz:=n.bytes_size
 have hl:=n.list
 have e4:=Pt.bytes_size h.root
 have f0:=numI_field n.bytes [] _ n.size 0 8 h.lo (by have:=h.hi;simp;omega) (by omega) (by omega) rfl hl
 have f1:=numI_field n.bytes _ _ 1 8 8 (by omega) (by decide) (by omega) (by omega) (by rw [size_list,leS_size];rfl) hl
 have h0:=h.lo
 have h1:=h.hi
 refine ⟨?_,?_,?_,?_,?_,?_,?_,?_,?_,?_,?_⟩
 ·unfold intV;rw [hz,f0];exact if_pos (by omega)
 ·unfold intE;rw [hz,f0,if_pos (by omega)];exact if_pos h1
 ·unfold intA;rw [hz,f0];exact if_pos (by omega)
 ·unfold intV;rw [hz,f1];exact if_pos (by omega)
 ·unfold intE;rw [hz,f1,if_pos (by omega)];exact if_pos (by omega)
 ·unfold intA;rw [hz,f1];exact if_pos (by omega)
 ·unfold takeS
  rw [hz,if_pos (by omega)]
  apply ba_ext
  rw [<-size_list] at e4
  rw [Lib.extract_eq,hl,<- List.append_assoc]
  exact mid _ _ _ _ _ (by simp only [List.length_append,size_list,leS_size];rfl) (by rw [e4];rfl)
 ·unfold errI;rw [hz];exact if_pos (by omega)
 ·unfold advI;rw [hz];exact if_pos (by omega)
 ·refine zeroI_of _ _ ?_
  rw [hl,<- List.append_assoc,<- List.append_assoc,List.drop_left' (by rw [<-size_list] at e4;simp only [List.length_append,size_list,leS_size] at *;omega)]
  exact λ b hb=>(List.mem_replicate.1 hb).2
 ·refine zeroI_not _ _ 1 (by decide) ?_
  rw [hl]
  simp only [List.drop_zero,Int.toNat_zero,List.mem_append]
  exact .inr (.inl (by decide))
theorem run_loadVarSub {P:Program} (W:World) (b o z:Nat) (cs:Array Value) (t:TypeId) (d:TypeDesc) [h:SubAt b o cs z W] (hu:P.underlying t=some d) (hd:(match d with | .struct _ | .array _ _=>true | _=>false)=true) (hi:(P.info? t).map (·.size)=some z) :
  (loadVar t ⟨b,o,none⟩).run P W=.ok (.agg cs) W:=by
 have:=run_loadSub (P:=P) W b o z cs t d hu hd hi
 simpa [Instr.loadAt,Instr.sureAddr] using this
theorem results_nd3 {fn:Func} {p u v:Tmp} (h:fn.results=#[.cell p 52,.tmp u,.tmp v]) (tmps:Array Value) (w:World) (b:Nat) (cs:Array Value) (hp:tmps.getD p undef=.pointer (some ⟨b,0,none⟩)) (hs:SubAt b 0 cs 13 w) :
  (results fn tmps).run Tryz.prog w=.ok (.tuple #[.agg cs,tmps.getD u undef,tmps.getD v undef]) w:=by
 have hp':tmps[p]?.getD undef=.pointer (some ⟨b,0,none⟩):=by simpa using hp
 unfold results
 rw [h]
 simp [hp',asAddr,run_loadVarSub (P:=Tryz.prog) w b 0 13 cs _ _ Tryz.underlying52 rfl (by kernel_rfl)]
theorem readnode_yes (n:Nd) [h:NFit n] (W:World):Fn 142 #[.string n.bytes] W (.tuple #[.agg n.cs,.bool true,.int .i64 0]):=by
 refine ⟨?_⟩
 have hz:=n.bytes_size
 obtain ⟨a0,a1,a2,a3,a4,a5,a6,a7,a8,a9,aa⟩:=n.fields
 haveI:Bd n.bytes 0:=⟨by omega,by omega,by omega⟩
 haveI:Bd n.bytes 8:=⟨by omega,by omega,by omega⟩
 haveI:Bd n.bytes 16:=⟨by omega,by omega,by omega⟩
 haveI:Bd n.bytes 80:=⟨by omega,by omega,by omega⟩
 haveI:∀ (b:Nat) (w:World) [Rdr b n.bytes 16 w],FnW 140 #[.pointer (some ⟨b,0,none⟩),.int .i64 64] w (.tuple #[.string n.root.bytes,.int .i64 0]) (w.setCell ⟨b,1,none⟩ (.int .i64 80)):=by
  intro b w i
  have:=take_rd b n.bytes 16 64 (by omega) (by omega) w
  rwa [a6,a7,a8] at this
 go_enter Tryz.func142,Tryz.ntmps142
 go_wp2_with (first | (with_reducible refine Fn.go λ g=>?_) | (with_reducible refine FnW.go λ g=>?_) | (with_reducible refine FnX.go ?_) | ((with_reducible apply wpList_load);(·exact rfl);(·exact ii)) | ((with_reducible apply wpList_build_nd);(·exact rfl);(·exact rfl)))
 refine bodyPost_ret ?_ rfl ⟨rfl,grown⟩
 exact Eq.trans (results_nd3 Tryz.results142 _ _ W.heap.size _ rfl ii) rfl
def Nd.none:Nd:=⟨0,Pt.none⟩
instance readnode_zero (W:World):Fn 142 #[.string (zerosB 128)] W (.tuple #[.agg Nd.none.cs,.bool false,.int .i64 0]):=by
 refine ⟨?_⟩
 have hz:zeroI (zerosB 128) 0=true:=zeroI_of _ _ (by rw [zerosB_list];intro b hb;exact (List.mem_replicate.1 (List.mem_of_mem_drop hb)).2)
 have hs:=zerosB_size 128
 haveI:Bd (zerosB 128) 0:=⟨by omega,by omega,by omega⟩
 generalize zerosB 128=s at *
 go_enter Tryz.func142,Tryz.ntmps142
 go_wp2_with (first | (with_reducible refine Fn.go λ g=>?_) | (with_reducible refine FnX.go ?_) | (with_reducible apply wpList_build0))
 refine bodyPost_ret ?_ rfl ⟨rfl,grown⟩
 exact Eq.trans (results_nd3 Tryz.results142 _ _ W.heap.size _ rfl ii) rfl
end Go.Proofs.YtlfjdjndhcmliaaGreatDoor
namespace Go.Proofs.YtlfjdjndhcmliaaGreatDoor
open Go.RowKit Go.ChangeShapes Go.WideShapes Go.Joins
def secsOf (k v secs:Int):Int:=if k=1 then (secs - 16)*v else secs - 16
set_option maxRecDepth 512 in
theorem sectors_yes {s:Slc} {secs:Int} {n:Nat} (h:goodG s secs) (hn:n < s.len) (w:World) [m:GM s w] :
  Calls Tryz.prog 132 #[.agg #[.slice s.ad s.len s.cap,.int .i64 secs],.int .i64 (n:Int)] w (Ret (.int .i64 (secsOf (s.x n) (s.y n) secs)) w):=by
 have HH:=Lib.hid (λ (w:World) [GM s w]=>has_grp h hn w)
 have hw:=wide_of h hn
 have h3:=h.2.2.1
 have h4:=h.2.2.2.1
 have hl:=h.2.1
 clear h
 have hcx:=m.c0 n hn
 have hcy:=m.c1 n hn
 have hix:=ix_grp m hn
 haveI hbo:=m.isOld hn
 rcases hw.2.2 with hx | ⟨hx,h3w⟩
 ·have e:=Lib.hid (show secsOf (s.x n) (s.y n) secs=secs - 16 by unfold secsOf;rw [if_neg (by omega)])
  have hx0:(s.x n == 1)=false:=by rw [hx];rfl
  clear hx
  go_enter Tryz.func132,Tryz.ntmps132
  go_wp2_with (go_at_call 183;with_reducible refine (Calls.at (HH.out _)).mono ?_;rintro e w' ⟨rfl,g,rfl⟩)
  go_ret
  exact Ret.mk (by rw [e.out];rfl) grown
 ·have e:=Lib.hid (show secsOf (s.x n) (s.y n) secs=(secs - 16)*s.y n by unfold secsOf;rw [if_pos hx])
  have hx0:(s.x n == 1)=true:=by rw [hx];rfl
  have hp:0<=(secs - 16)*s.y n:=Int.mul_nonneg (by omega) (by omega)
  have hq:(secs - 16)*s.y n<=9223372036854775807:=by
   have:(secs - 16)*s.y n<=4080*8:=Int.mul_le_mul (by omega) (by omega) (by omega) (by omega)
   omega
  clear hx
  go_enter Tryz.func132,Tryz.ntmps132
  go_wp2_with (go_at_call 183;with_reducible refine (Calls.at (HH.out _)).mono ?_;rintro e w' ⟨rfl,g,rfl⟩)
  go_ret
  exact Ret.mk (by rw [e.out];rfl) grown
set_option maxRecDepth 512 in
theorem sectors_no {s:Slc} {secs n:Int} (h:¬ (goodG s secs/\0<=n/\n < s.len)) (hs:s.len<=9223372036854775807) (w:World) [m:GM s w] :
  Calls Tryz.prog 132 #[.agg #[.slice s.ad s.len s.cap,.int .i64 secs],.int .i64 n] w (Ret (.int .i64 0) w):=by
 have HH:=Lib.hid (λ (w:World) [GM s w]=>hasnt_grp h hs w)
 clear h
 go_enter Tryz.func132,Tryz.ntmps132
 go_wp2_with (go_at_call 183;with_reducible refine (Calls.at (HH.out _)).mono ?_;rintro e w' ⟨rfl,g,rfl⟩)
 go_ret
 exact Ret.mk rfl grown
def takeOf (k v size:Int):Int:=if k=0 then size else (size+(size+v - 2) / (v - 1))+(size+(size+v - 2) / (v - 1)) % 2
set_option maxRecDepth 512 in
theorem takes_yes {s:Slc} {secs size:Int} {n:Nat} (h:goodG s secs) (hn:n < s.len) (z1:1<=size) (z2:size<=4) (w:World) [m:GM s w] :
  Calls Tryz.prog 186 #[.agg #[.slice s.ad s.len s.cap,.int .i64 secs],.int .i64 (n:Int),.int .i64 size] w (Ret (.int .i64 (takeOf (s.x n) (s.y n) size)) w):=by
 have HH:=Lib.hid (λ (w:World) [GM s w]=>has_grp h hn w)
 have hw:=wide_of h hn
 have hl:=h.2.1
 clear h
 have hcx:=m.c0 n hn
 have hcy:=m.c1 n hn
 have hix:=ix_grp m hn
 haveI hbo:=m.isOld hn
 rcases hw.2.2 with hx | ⟨hx,h3w⟩
 ·have e:=Lib.hid (show takeOf (s.x n) (s.y n) size=size by unfold takeOf;rw [if_pos hx])
  have hx0:(s.x n == 0)=true:=by rw [hx];rfl
  clear hx
  go_enter Tryz.func186,Tryz.ntmps186
  go_wp2_with (go_at_call 183;with_reducible refine (Calls.at (HH.out _)).mono ?_;rintro e w' ⟨rfl,g,rfl⟩)
  go_ret
  exact Ret.mk (by rw [e.out];rfl) grown
 ·have e:=Lib.hid (show takeOf (s.x n) (s.y n) size=(size+(size+s.y n - 2) / (s.y n - 1))+(size+(size+s.y n - 2) / (s.y n - 1)) % 2 by unfold takeOf;rw [if_neg (by omega)])
  have hx0:(s.x n == 0)=false:=by rw [hx];rfl
  clear hx
  have q0:0<=(size+s.y n - 2) / (s.y n - 1):=Int.ediv_nonneg (by omega) (by omega)
  have q1:(size+s.y n - 2) / (s.y n - 1)<=size+s.y n - 2:=Int.ediv_le_self _ (by omega)
  go_enter Tryz.func186,Tryz.ntmps186
  go_wp2_with (go_at_call 183;with_reducible refine (Calls.at (HH.out _)).mono ?_;rintro e w' ⟨rfl,g,rfl⟩)
  go_ret
  exact Ret.mk (by rw [e.out];rfl) grown
set_option maxRecDepth 512 in
theorem takes_no {s:Slc} {secs n size:Int} (h:¬ (goodG s secs/\0<=n/\n < s.len/\1<=size/\size<=4)) (hs:s.len<=9223372036854775807) (w:World) [m:GM s w] :
  Calls Tryz.prog 186 #[.agg #[.slice s.ad s.len s.cap,.int .i64 secs],.int .i64 n,.int .i64 size] w (Ret (.int .i64 0) w):=by
 by_cases hh:goodG s secs/\0<=n/\n < s.len
 ·obtain ⟨hg,h0,hn⟩:=hh
  obtain ⟨k,rfl⟩:=Int.eq_ofNat_of_zero_le h0
  have HH:=Lib.hid (λ (w:World) [GM s w]=>has_grp hg (k:=k) (by omega) w)
  by_cases z1:1<=size
  ·have z2:¬ size<=4:=λ z2=>h ⟨hg,h0,hn,z1,z2⟩
   clear h hg
   go_enter Tryz.func186,Tryz.ntmps186
   go_wp2_with (go_at_call 183;with_reducible refine (Calls.at (HH.out _)).mono ?_;rintro e w' ⟨rfl,g,rfl⟩)
   go_ret
   exact Ret.mk rfl grown
  ·clear h hg
   go_enter Tryz.func186,Tryz.ntmps186
   go_wp2_with (go_at_call 183;with_reducible refine (Calls.at (HH.out _)).mono ?_;rintro e w' ⟨rfl,g,rfl⟩)
   go_ret
   exact Ret.mk rfl grown
 ·have HH:=Lib.hid (λ (w:World) [GM s w]=>hasnt_grp hh hs w)
  clear h hh
  go_enter Tryz.func186,Tryz.ntmps186
  go_wp2_with (go_at_call 183;with_reducible refine (Calls.at (HH.out _)).mono ?_;rintro e w' ⟨rfl,g,rfl⟩)
  go_ret
  exact Ret.mk rfl grown
class Geo (s:Slc) (secs:Int):Prop where
 h:goodG s secs
def firI (s:Slc) (n:Int):Int:=if 0<=n/\n < s.len then sumW s n.toNat else 0
def secI (s:Slc) (secs n:Int):Int:=if 0<=n/\n < s.len then secsOf (s.x n.toNat) (s.y n.toNat) secs else 0
def takI (s:Slc) (n size:Int):Int:=if 0<=n/\n < s.len/\1<=size/\size<=4 then takeOf (s.x n.toNat) (s.y n.toNat) size else 0
section
variable (s:Slc) (secs n size:Int) (w:World) [m:GM s w] [k:Geo s secs]
instance gright_fn:Fn 13 #[.agg #[.slice s.ad s.len s.cap,.int .i64 secs]] w (.bool true):=⟨right_yes k.h w⟩
instance gdevs_fn:Fn 42 #[.agg #[.slice s.ad s.len s.cap,.int .i64 secs]] w (.int .i64 (sumW s s.len)):=⟨devs_yes k.h w⟩
instance gfirst_fn:Fn 256 #[.agg #[.slice s.ad s.len s.cap,.int .i64 secs],.int .i64 n] w (.int .i64 (firI s n)):=by
 have hl:=k.h.2.1
 by_cases h:0<=n/\n < s.len
 ·obtain ⟨j,rfl⟩:=Int.eq_ofNat_of_zero_le h.1
  rw [firI,if_pos h]
  exact ⟨first_yes k.h (by omega) w⟩
 ·rw [firI,if_neg h]
  exact ⟨first_no (λ a=>h ⟨a.2.1,a.2.2⟩) (by omega) w⟩
instance gsectors_fn:Fn 132 #[.agg #[.slice s.ad s.len s.cap,.int .i64 secs],.int .i64 n] w (.int .i64 (secI s secs n)):=by
 have hl:=k.h.2.1
 by_cases h:0<=n/\n < s.len
 ·obtain ⟨j,rfl⟩:=Int.eq_ofNat_of_zero_le h.1
  rw [secI,if_pos h]
  exact ⟨sectors_yes k.h (by omega) w⟩
 ·rw [secI,if_neg h]
  exact ⟨sectors_no (λ a=>h ⟨a.2.1,a.2.2⟩) (by omega) w⟩
instance gtakes_fn:Fn 186 #[.agg #[.slice s.ad s.len s.cap,.int .i64 secs],.int .i64 n,.int .i64 size] w (.int .i64 (takI s n size)):=by
 have hl:=k.h.2.1
 by_cases h:0<=n/\n < s.len/\1<=size/\size<=4
 ·obtain ⟨j,rfl⟩:=Int.eq_ofNat_of_zero_le h.1
  rw [takI,if_pos h]
  exact ⟨takes_yes k.h (by omega) h.2.2.1 h.2.2.2 w⟩
 ·rw [takI,if_neg h]
  exact ⟨takes_no (λ a=>h ⟨a.2.1,a.2.2.1,a.2.2.2.1,a.2.2.2.2⟩) (by omega) w⟩
end
end Go.Proofs.YtlfjdjndhcmliaaGreatDoor
namespace Go.Proofs.YtlfjdjndhcmliaaGreatDoor
open Go.RowKit Go.Sort
def goFn (P:Program) (f:FuncId):Bool:=match P.funcs[f]? with
 | some fn => !(fn.name == "runtime.NumGoroutine") && fn.body.isSome
 | none=>false
theorem run_goFn {P:Program} {f:FuncId} {xs:Array Operand} {ts:Array TypeId} {d:Option Tmp} {ty:TypeId} {pos:String} {aft:Array Edge} {a:Act} (hp:goFn P f=true) (w:World) :
  (execOp a.eval { dst:=d,op:=.call { callee:=.value (.func f),args:=xs,argTypes:=ts },type:=ty,pos:=pos,after:=aft,guard:=none }).run P w=.ok (.enter f (xs.map a.eval)) w:=by
 unfold goFn at hp
 split at hp
 ·rename_i fn hf
  simp only [Bool.and_eq_true,Bool.not_eq_true',Option.isSome_iff_exists] at hp
  obtain ⟨h1,c,h2⟩:=hp
  have h1 : ¬ fn.name = "runtime.NumGoroutine" := by simpa using h1
  simp [execOp,resolve,Deferred.ofValue,invoke,callFunc,hf,h1,h2,Act.eval]
 ·cases hp
theorem cNode {f:FuncId} {xs:Array Operand} {ts:Array TypeId} {d:Option Tmp} {ty:TypeId} {pos:String} {aft:Array Edge} {a:Act} {v:Value} {C:World->Prop} {N:Value->Prop} (hp:goFn Tryz.prog f=true) (h:∀ w,C w->Fn f (xs.map a.eval) w v) (hn:N v) :
  ∃ v,(∀ w,C w->Oper.quietAt Tryz.prog { dst:=d,op:=.call { callee:=.value (.func f),args:=xs,argTypes:=ts },type:=ty,pos:=pos,after:=aft,guard:=none } a (Cls w) w v)/\N v:=by
 refine ⟨v,λ w hw=>?_,hn⟩
 unfold Oper.quietAt
 rw [run_goFn hp]
 exact ⟨rfl,(h w hw).own⟩
class ElT (ts:TypeId) (e:outParam TypeId) (z by_:outParam Nat):Prop where
 sl:Tryz.prog.underlying ts=some (.slice e)
 el:∃ i zr,Tryz.prog.info? e=some i/\i.zero=some zr/\i.size=z/\i.bytes=by_/\zr.cells.size=z
 pos:0 < z
theorem elT_of {ts e:TypeId} {z b:Nat} (h1:Tryz.prog.underlying ts=some (.slice e)) (h2:(Tryz.prog.info? e).map (λ i=>(i.zero.map (λ v=>v.cells.size),i.size,i.bytes))=some (some z,z,b)) (h3:0 < z):ElT ts e z b:=by
 refine ⟨h1,?_,h3⟩
 cases hi:Tryz.prog.info? e with
 | none=>rw [hi] at h2;cases h2
 | some i =>
  rw [hi] at h2
  simp only [Option.map_some,Option.some.injEq,Prod.mk.injEq,Option.map_eq_some_iff] at h2
  obtain ⟨⟨zr,h4,h5⟩,h6,h7⟩:=h2
  exact ⟨i,zr,rfl,h4,h6,h7,h5⟩
class OneV (v:Value):Prop where
 h:v.oneCell'=true
instance (k:IntKind) (x:Int):OneV (.int k x):=⟨rfl⟩
instance (x:Bool):OneV (.bool x):=⟨rfl⟩
instance (x:ByteArray):OneV (.string x):=⟨rfl⟩
instance (x:Option Addr) (n c:Nat):OneV (.slice x n c):=⟨rfl⟩
instance (x:Option Addr):OneV (.pointer x):=⟨rfl⟩
class OneC (l:List Value):Prop where
 h:∀ u∈l,u.oneCell'=true
instance:OneC []:=⟨λ u hu=>by cases hu⟩
instance (v:Value) (l:List Value) [a:OneV v] [b:OneC l]:OneC (v::l):=⟨λ u hu=>by
 rcases List.mem_cons.1 hu with rfl | hu
 ·exact a.h
 ·exact b.h u hu⟩
instance (p:Pt):OneC p.cs.toList:=⟨cs_oneCell p⟩
class CellsAt (b:Nat) (l:outParam (List Value)) (W:World):Prop where
 old:Old b W
 cell:∀ (j:Nat) (v:Value),l[j]?=some v->W.cell? ⟨b,j,none⟩=some v
instance cellsNew (W:World) (b:Nat) (l:List Value) (t:TypeId) [k:SizeIs W b]:CellsAt b l (W.alloc (.cells l.toArray t)):=⟨ii,λ j v e=>by rw [cell_at];simpa using e⟩
instance cellsPt (W:World) (b:Nat) (p:Pt) (t:TypeId) [k:SizeIs W b]:CellsAt b p.cs.toList (W.alloc (.cells p.cs t)):=⟨ii,λ j v e=>by rw [cell_at];simpa using e⟩
instance cellsGr (W:World) (b:Nat) (l:List Value) (g:Gr) [h:CellsAt b l W]:CellsAt b l (gr W g):=by
 haveI:=h.old
 exact ⟨ii,λ j v e=>(cell_gr ..).trans (h.cell j v e)⟩
class OwnS (e:outParam TypeId) (z:outParam Nat) (ad:Option Addr) (n cap:outParam Nat) (xs:outParam (List Value)) (W:World) (W1:outParam World):Prop where
 own:W.ownsRow W1.heap.size e z (.slice ad n cap) n xs
 grw:∃ g,W=gr W1 g
theorem OwnS.nil (e:TypeId) (z:Nat) (W:World):OwnS e z none 0 0 [] W W:=⟨World.ownsRow_nil _ _ _ _,ex_gr W⟩
instance ownGr (e:TypeId) (z:Nat) (ad:Option Addr) (n cap:Nat) (xs:List Value) (W W1:World) (g:Gr) [h:OwnS e z ad n cap xs W W1]:OwnS e z ad n cap xs (gr W g) W1 :=
 ⟨ownsRow_off h.own λ k hk=>gr_heap _ _ (h.own.lt k hk).2,by obtain ⟨g',e⟩:=h.grw;exact ⟨g'.seq g,by rw [e,gr_gr]⟩⟩
instance ownAlloc (e:TypeId) (z:Nat) (ad:Option Addr) (n cap:Nat) (xs:List Value) (W W1:World) (o:Obj) [h:OwnS e z ad n cap xs W W1]:OwnS e z ad n cap xs (W.alloc o) W1 :=
 ⟨h.own.alloc o,by obtain ⟨g',e⟩:=h.grw;exact ⟨_,by rw [e,gr_alloc]⟩⟩
theorem run_app1 {ts e:TypeId} {z by_:Nat} [k:ElT ts e z by_] {W W1:World} {ad:Option Addr} {n cap b:Nat} {xs l:List Value} (ho:OwnS e z ad n cap xs W W1) (hc:CellsAt b l W) (hl:l.length=z) (h1:OneC l) (hn:n<=1000000) (hb:by_<=1000) :
  ∃ g' cap' W',(Builtin.append_ #[ts,ts] ts #[.slice ad n cap,.slice (some ⟨b,0,none⟩) 1 1]).run Tryz.prog W=.ok (.slice (some ⟨g',0,none⟩) (n+1) cap') W'/\OwnS e z (some ⟨g',0,none⟩) (n+1) cap' (xs++l) W' W1:=by
 obtain ⟨i,zr,hi,hz0,hz1,hz2,hz3⟩:=ElT.el (ts:=ts) (e:=e) (z:=z) (by_:=by_)
 have ksl:=ElT.sl (ts:=ts) (e:=e) (z:=z) (by_:=by_)
 have kpos:=ElT.pos (ts:=ts) (e:=e) (z:=z) (by_:=by_)
 obtain ⟨g,hg⟩:=ho.grw
 have hsz:W1.heap.size<=W.heap.size:=by rw [hg,gr_size];omega
 obtain ⟨v',W',hrun,hown',hgr,_⟩:=run_append_own (P:=Tryz.prog) W W1.heap.size ts ts e i zr z by_ ksl hi hz0 hz1 hz2 hz3 kpos _ n xs ho.own ⟨b,0,none⟩ 1 1 l (by omega)
  (λ j u hj=>by
   have e:(⟨b,0,none⟩:Addr).add j=⟨b,j,none⟩:=by unfold Addr.add;split <;> simp_all
   rw [e];exact hc.cell j u hj) h1.h (by unfold maxLen;omega) (by have:=Nat.mul_le_mul (show n+1<=1000001 by omega) hb;omega) hsz
 have hb:Below W1.heap.size W1 W':=Below.grown (by rw [hg];exact below_gr _ _) hgr hsz (λ j hj=>(ho.own.lt j hj).1)
 rcases hown'.2 with ⟨_,h0⟩ | ⟨g',cap',cur',rfl,hb',hg',hle',hmx',hs',ht'⟩
 ·omega
 ·exact ⟨g',cap',W',hrun,hown',gr_of_below hb⟩
section
variable {ops:Array Oper} {rest:List Oper} {Q:Exit->Act->World->Prop} {a:Act} {w:World} {d:Option Tmp} {pos:String} {aft:Array Edge}
theorem wpList_app1 {ts e:TypeId} {z by_:Nat} [k:ElT ts e z by_] {x y:Operand} {W1:World} {ad:Option Addr} {n cap b:Nat} {xs l:List Value} (hx:a.eval x=.slice ad n cap) (hy:a.eval y=.slice (some ⟨b,0,none⟩) 1 1)
  (ho:OwnS e z ad n cap xs w W1) (hc:CellsAt b l w) (h1:OneC l) (hl:l.length=z) (hb:by_<=1000) (hn:n<=1000000)
  (h:∀ g' cap' g,OwnS e z (some ⟨g',0,none⟩) (n+1) cap' (xs++l) (gr W1 g) W1->wpList Tryz.prog ops Q rest (a.put d (.slice (some ⟨g',0,none⟩) (n+1) cap')) (gr W1 g)) :
  wpList Tryz.prog ops Q ({ dst:=d,op:=.call { callee:=.builtin .append,args:=#[x,y],argTypes:=#[ts,ts] },type:=ts,pos:=pos,after:=aft,guard:=none }::rest) a w:=by
 obtain ⟨g',cap',W',hr,ho'⟩:=run_app1 (ts:=ts) ho hc hl h1 hn hb
 refine wpList_append_run rfl _ _ _ _ rfl _ _ hx hy hr ?_
 obtain ⟨g,rfl⟩:=ho'.grw
 exact h g' cap' g ho'
end
class RdS (z:Nat) (ad:Option Addr) (n cap:Nat) (xs:outParam (List (List Value))) (W:World):Prop where
 len:xs.length=n
 cells:∀ (k:Nat) (x:List Value),xs[k]?=some x->∃ b o,ad=some ⟨b,o,none⟩/\Old b W/\∀ (j:Nat) (v:Value),x[j]?=some v->W.cell? ⟨b,o+k*z+j,none⟩=some v
instance rdsGr (z:Nat) (ad:Option Addr) (n cap:Nat) (xs:List (List Value)) (W:World) (g:Gr) [h:RdS z ad n cap xs W]:RdS z ad n cap xs (gr W g):=⟨h.len,λ k x e=>by
 obtain ⟨b,o,e1,e2,e3⟩:=h.cells k x e
 exact ⟨b,o,e1,ii,λ j v e4=>(cell_gr ..).trans (e3 j v e4)⟩⟩
instance rdsAlloc (z:Nat) (ad:Option Addr) (n cap:Nat) (xs:List (List Value)) (W:World) (ob:Obj) [h:RdS z ad n cap xs W]:RdS z ad n cap xs (W.alloc ob):=⟨h.len,λ k x e=>by
 obtain ⟨b,o,e1,e2,e3⟩:=h.cells k x e
 exact ⟨b,o,e1,ii,λ j v e4=>(cell_past ..).trans (e3 j v e4)⟩⟩
theorem flat_at:∀ (xs:List (List Value)) (z k j:Nat) (x:List Value),(∀ y∈xs,y.length=z)->xs[k]?=some x->j < z->xs.flatten[k*z+j]?=x[j]?
 | [],_,_,_,_,_,e,_=>by simp at e
 | y::xs,z,0,j,x,hy,e,hj=>by
  have e:y=x:=by simpa using e
  subst e
  rw [List.flatten_cons,Nat.zero_mul,Nat.zero_add,List.getElem?_append_left (by rw [hy y (by simp)];exact hj)]
 | y::xs,z,k+1,j,x,hy,e,hj=>by
  have hl:=hy y (by simp)
  rw [List.flatten_cons,List.getElem?_append_right (by rw [hl,Nat.add_mul];omega),hl,show (k+1)*z+j - z=k*z+j by rw [Nat.add_mul];omega]
  exact flat_at xs z k j x (λ y h=>hy y (by simp [h])) (by simpa using e) hj
theorem OwnS.rd {e:TypeId} {z:Nat} {ad:Option Addr} {n cap:Nat} {xs:List (List Value)} {W W1:World} (h:OwnS e z ad n cap xs.flatten W W1) (hl:xs.length=n) (hz:∀ x∈xs,x.length=z):RdS z ad n cap xs W:=by
 refine ⟨hl,λ k x hx=>?_⟩
 have hk:k < n:=by have:=(List.getElem?_eq_some_iff.1 hx).1;omega
 rcases h.own.2 with ⟨_,h0⟩ | ⟨g,cap',cur,hv,_,hg,_⟩
 ·omega
 ·have hv:ad=some ⟨g,0,none⟩:=by injection hv
  subst hv
  refine ⟨g,0,rfl,⟨(Array.getElem?_eq_some_iff.1 hg).1⟩,λ j v hj=>?_⟩
  have hjz:j < z:=by rw [<-hz x (List.mem_of_getElem? hx)];exact (List.getElem?_eq_some_iff.1 hj).1
  have hc:=h.own.cells (g:=g) rfl (k*z+j) v (by rw [flat_at xs z k j x hz hx hjz];exact hj)
  have e:(⟨g,0,none⟩:Addr).add (k*z+j)=⟨g,0+k*z+j,none⟩:=by unfold Addr.add;split <;> simp_all
  rw [e] at hc
  exact hc
structure Col where
 dev:Int
 at_:Int
 par:Bool
 row:Int
def Col.cl (c:Col):List Value:=[.int .i64 c.dev,.int .i64 c.at_,.bool c.par,.int .i64 c.row]
instance elTCol:ElT 328 370 4 32:=elT_of Tryz.underlying328 (by kernel_rfl) (by omega)
def mirC (first at_:Int) (size k:Nat):Col:=⟨first+(k / size:Nat),16+at_+(k % size:Nat),false,(k % size:Nat)⟩
def flatC (f:Nat->Col) (n:Nat):List Value:=((List.range n).map λ k=>(f k).cl).flatten
theorem flatC_succ (f:Nat->Col) (n:Nat):flatC f (n+1)=flatC f n++(f n).cl:=by simp [flatC,List.range_succ]
set_option maxRecDepth 512 in
theorem mirror_at (first at_:Int) (wide size:Nat) (hw:wide<=8) (hs:size<=4) (hf:0<=first/\first<=100) (ha:0<=at_/\at_<=40000) (w:World) :
  Calls Tryz.prog 257 #[.int .i64 first,.int .i64 wide,.int .i64 at_,.int .i64 size] w λ e w'=>∃ ad cap,e=.returned (.slice ad (wide*size) cap)/\OwnS 370 4 ad (wide*size) cap (flatC (mirC first at_ size) (wide*size)) w' w:=by
 obtain ⟨hf0,hf1⟩:=hf
 obtain ⟨ha0,ha1⟩:=ha
 go_enter Tryz.func257,Tryz.ntmps257
 go_wp2_with fail
 go_loopw [9,13] (λ v i wr=>∃ (d:Nat) (ad:Option Addr) (cap:Nat),d<=wide/\i=.int .i64 d/\v=.slice ad (d*size) cap/\OwnS 370 4 ad (d*size) cap (flatC (mirC first at_ size) (d*size)) wr w)
  (λ _ i _=>wide - (intOf i).toNat)
 case atStart=>exact ⟨0,none,0,Nat.zero_le _,rfl,by rw [Nat.zero_mul],by rw [Nat.zero_mul];exact OwnS.nil _ _ _⟩
 case round =>
  obtain ⟨d,ad,cap,hd,rfl,rfl,ho⟩:=hrel
  obtain ⟨g,rfl⟩:=ho.grw
  by_cases hlt:d < wide
  ·go_wp2_with fail
   go_loopw [9,17] (λ v i wr=>∃ (j:Nat) (ad:Option Addr) (cap:Nat),j<=size/\i=.int .i64 j/\v=.slice ad (d*size+j) cap/\OwnS 370 4 ad (d*size+j) cap (flatC (mirC first at_ size) (d*size+j)) wr w)
    (λ _ i _=>size - (intOf i).toNat)
   case atStart=>exact ⟨0,ad,cap,Nat.zero_le _,rfl,rfl,ho⟩
   case round =>
    clear ho
    obtain ⟨j,ad,cap,hj,rfl,rfl,ho⟩:=hrel
    obtain ⟨g,rfl⟩:=ho.grw
    by_cases hlj:j < size
    ·have hb:d*size+j<=1000000:=by
      have:=Nat.mul_le_mul (show d<=8 by omega) hs
      omega
     have hd2:d<=8:=by omega
     go_wp2_with (at_builtin;(with_reducible apply wpList_app1);(·exact rfl);(·exact rfl);(·exact ii);(·exact ii);(·exact ii);(·exact rfl);(·decide);(·omega);intro gA capA gW hOwn)
     refine ⟨⟨j+1,_,_,hlj,by go_num,rfl,?_⟩,by simp [intOf];omega⟩
     have e:(d*size+j) / size=d/\(d*size+j) % size=j:=by
      rw [Nat.mul_comm,Nat.mul_add_div (by omega),Nat.mul_add_mod,Nat.div_eq_of_lt hlj,Nat.mod_eq_of_lt hlj]
      exact ⟨rfl,rfl⟩
     rw [<-Nat.add_assoc,flatC_succ]
     simp only [mirC,e.1,e.2,Col.cl]
     exact hOwn
    ·obtain rfl:size=j:=by omega
     go_wp2_with fail
     exact ⟨⟨d+1,ad,cap,hlt,by go_num,by rw [Nat.add_mul,Nat.one_mul],by rw [Nat.add_mul,Nat.one_mul];exact ho⟩,by simp [intOf];omega⟩
  ·obtain rfl:wide=d:=by omega
   go_wp2_with fail
   go_ret
   exact ⟨_,_,rfl,ho⟩
end Go.Proofs.YtlfjdjndhcmliaaGreatDoor
