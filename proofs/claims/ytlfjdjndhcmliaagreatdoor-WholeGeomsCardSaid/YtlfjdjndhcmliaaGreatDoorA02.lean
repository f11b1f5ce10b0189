/- WholeGeoms, part 2. -/
import Derived.Test.YtlfjdjndhcmliaaGreatDoorA01
import Derived.Laws.ResultCell
set_option maxRecDepth 100000
set_option maxHeartbeats 4000000
set_option linter.all false
namespace Go.Proofs.YtlfjdjndhcmliaaGreatDoor
open Go.RowKit Go.Sort
class IntsAt (b n:Nat) (l:outParam (List Int)) (W:World):Prop where
 len:l.length=n
 few:n<=65536
 old:Old b W
 cell:∀ k,k < n->W.cell? ⟨b,k,none⟩=some (.int .i64 (l.getD k 0))
instance ints2 (W:World) (b:Nat) (x y:Int) (t:TypeId) [k:SizeIs W b]:IntsAt b 2 [x,y] (W.alloc (.cells #[.int .i64 x,.int .i64 y] t)) :=
 ⟨rfl,by omega,ii,λ j hj=>by rw [cell_at];match j,hj with
  | 0,_=>rfl
  | 1,_=>rfl⟩
instance ints5 (W:World) (b:Nat) (x y z u v:Int) (t:TypeId) [k:SizeIs W b]:IntsAt b 5 [x,y,z,u,v] (W.alloc (.cells #[.int .i64 x,.int .i64 y,.int .i64 z,.int .i64 u,.int .i64 v] t)) :=
 ⟨rfl,by omega,ii,λ j hj=>by rw [cell_at];match j,hj with
  | 0,_=>rfl
  | 1,_=>rfl
  | 2,_=>rfl
  | 3,_=>rfl
  | 4,_=>rfl⟩
instance ints6 (W:World) (b:Nat) (x y z u v s:Int) (t:TypeId) [k:SizeIs W b]:IntsAt b 6 [x,y,z,u,v,s] (W.alloc (.cells #[.int .i64 x,.int .i64 y,.int .i64 z,.int .i64 u,.int .i64 v,.int .i64 s] t)) :=
 ⟨rfl,by omega,ii,λ j hj=>by rw [cell_at];match j,hj with
  | 0,_=>rfl
  | 1,_=>rfl
  | 2,_=>rfl
  | 3,_=>rfl
  | 4,_=>rfl
  | 5,_=>rfl⟩
instance intsGr (b n:Nat) (l:List Int) (W:World) (g:Gr) [h:IntsAt b n l W]:IntsAt b n l (gr W g):=by
 haveI:=h.old
 exact ⟨h.len,h.few,ii,λ k hk=>(cell_gr ..).trans (h.cell k hk)⟩
def okN (most n:Int):Bool:=decide (0<=n/\n<=most)
def withinL (most:Int) (l:List Int):Bool:=l.all (okN most)
theorem take_getD {α:Type} (l:List α) (d:α) (k:Nat) (h:k < l.length):l.take (k+1)=l.take k++[l.getD k d]:=by
 rw [List.take_succ_eq_append_getElem h,List.getD_eq_getElem?_getD,List.getElem?_eq_getElem h];rfl
set_option maxRecDepth 512 in
theorem within_at (most:Int) (b n:Nat) (l:List Int) (W:World) [h:IntsAt b n l W]:Fn 218 #[.int .i64 most,.slice (some ⟨b,0,none⟩) n n] W (.bool (withinL most l)):=by
 refine ⟨?_⟩
 haveI:=h.old
 have hc:=Lib.hid h.cell
 have hl:=Lib.hid h.len
 have hn:=h.few
 go_enter Tryz.func218,Tryz.ntmps218
 go_wp2_with fail
 go_loopw [9] (λ i wr=>∃ k:Nat,k<=n/\i=.int .i64 k/\withinL most (l.take k)=true/\∃ g:Gr,wr=gr W g) (λ i _=>n - (intOf i).toNat)
 case atStart=>exact ⟨0,Nat.zero_le _,rfl,rfl,ex_gr _⟩
 case round =>
  obtain ⟨k,hk,rfl,ht,g,rfl⟩:=hrel
  have HT:=Lib.hid ht
  clear ht
  by_cases hlt:k < n
  ·have hck:=hc.out k hlt
   obtain ⟨x,hx⟩:∃ x,l.getD k 0=x:=⟨_,rfl⟩
   rw [hx] at hck
   have HS:=Lib.hid (take_getD l 0 k (by rw [hl.out];exact hlt))
   have HX:=Lib.hid hx
   clear hx
   by_cases h0:x < 0 <;> by_cases h1:most < x
   any_goals
    have hw:withinL most l=false:=by
     unfold withinL
     rw [<-List.take_append_drop (k+1) l,HS.out,HX.out]
     simp [okN];omega
    have HW:=Lib.hid hw
    clear hw
    go_wp2_with fail
    go_ret
    exact Ret.mk (by rw [HW.out];rfl) grown
   go_wp2_with fail
   go_roundw
   case rel=>exact ⟨k+1,by omega,by go_num,by have:=HT.out;unfold withinL at this ⊢;rw [HS.out,List.all_append,this,HX.out];simp [okN];omega,_,rfl⟩
   case measure=>simp [intOf];omega
  ·obtain rfl:n=k:=by omega
   have HW:Hid (withinL most l=true):=by have:=HT.out;rwa [List.take_of_length_le (by rw [hl.out];omega)] at this
   go_wp2_with fail
   go_ret
   exact Ret.mk (by rw [HW.out];rfl) grown
instance within2 (most:Int) (b:Nat) (l:List Int) (W:World) [h:IntsAt b 2 l W]:Fn 218 #[.int .i64 most,.slice (some ⟨b,0,none⟩) 2 2] W (.bool (withinL most l)):=within_at most b 2 l W
instance within5 (most:Int) (b:Nat) (l:List Int) (W:World) [h:IntsAt b 5 l W]:Fn 218 #[.int .i64 most,.slice (some ⟨b,0,none⟩) 5 5] W (.bool (withinL most l)):=within_at most b 5 l W
def smallS (l:List Int):ByteArray:=l.foldl (λ s n=>s++u32S n) nilB
theorem u32S_size (n:Int):(u32S n).size<=4:=by
 unfold u32S
 split
 ·rw [leS_size];omega
 ·exact Nat.zero_le _
theorem smallS_snoc (l:List Int) (n:Int):smallS (l++[n])=smallS l++u32S n:=by simp [smallS]
theorem smallS_size (l:List Int):(smallS l).size<=4*l.length:=by
 have key:∀ (l:List Int) (s:ByteArray),(l.foldl (λ s n=>s++u32S n) s).size<=s.size+4*l.length:=by
  intro l
  induction l with
  | nil=>intro s;exact Nat.le_refl _
  | cons n l ih =>
   intro s
   have h1:=ih (s++u32S n)
   have h2:=u32S_size n
   rw [ByteArray.size_append] at h1
   simp only [List.foldl_cons,List.length_cons]
   omega
 have:=key l nilB
 rwa [nilB_size,Nat.zero_add] at this
set_option maxRecDepth 512 in
theorem small_at (b n:Nat) (l:List Int) (W:World) [h:IntsAt b n l W]:Fn 219 #[.slice (some ⟨b,0,none⟩) n n] W (.string (smallS l)):=by
 refine ⟨?_⟩
 haveI:=h.old
 have hc:=Lib.hid h.cell
 have hl:=Lib.hid h.len
 have hn:=h.few
 go_enter Tryz.func219,Tryz.ntmps219
 go_wp2_with fail
 go_loopw [3,8] (λ v i wr=>∃ k:Nat,k<=n/\i=.int .i64 k/\v=.string (smallS (l.take k))/\∃ g:Gr,wr=gr W g) (λ _ i _=>n - (intOf i).toNat)
 case atStart=>exact ⟨0,Nat.zero_le _,rfl,rfl,ex_gr _⟩
 case round =>
  obtain ⟨k,hk,rfl,rfl,g,rfl⟩:=hrel
  by_cases hlt:k < n
  ·have hck:=hc.out k hlt
   obtain ⟨x,hx⟩:∃ x,l.getD k 0=x:=⟨_,rfl⟩
   have hs:=smallS_size (l.take k)
   have hl2:(l.take k).length<=k:=List.length_take_le _ _
   have hu:=u32S_size x
   have HS:Hid (smallS (l.take (k+1))=smallS (l.take k)++u32S x):=by rw [take_getD l 0 k (by rw [hl.out];exact hlt),hx,smallS_snoc];rfl
   rw [hx] at hck
   clear hx
   go_wp2_with (with_reducible refine Fn.go λ g=>?_)
   go_roundw
   case rel=>exact ⟨k+1,by omega,by go_num,by rw [HS.out],_,rfl⟩
   case measure=>simp [intOf];omega
  ·obtain rfl:n=k:=by omega
   have HW:Hid (l.take n=l):=List.take_of_length_le (by rw [hl.out];omega)
   go_wp2_with fail
   go_ret
   exact Ret.mk (by rw [HW.out];rfl) grown
instance small6 (b:Nat) (l:List Int) (W:World) [h:IntsAt b 6 l W]:Fn 219 #[.slice (some ⟨b,0,none⟩) 6 6] W (.string (smallS l)):=small_at b 6 l W
structure Pt where
 ag:Int
 aa:Int
 bg:Int
 ba:Int
 two:Bool
 size:Int
 level:Int
 birth:Int
 sum:S4
def Pt.ok (p:Pt):Bool:=withinL 4294967295 [p.ag,p.aa,p.bg,p.ba,p.birth] && withinL 255 [p.size,p.level]
def Pt.one (p:Pt):Int:=p.size+p.level*256+if p.two then 65536 else 0
def Pt.raw (p:Pt):ByteArray:=smallS [p.ag,p.aa,p.bg,p.ba,p.one,p.birth]++bs p.sum 4
def Pt.bytes (p:Pt):ByteArray:=if p.ok then padS p.raw 64 else nilB
def Pt.err (p:Pt):Int:=if p.ok then 0 else 1
def Pt.cs (p:Pt):Array Value:=#[.int .i64 p.ag,.int .i64 p.aa,.int .i64 p.bg,.int .i64 p.ba,.bool p.two,.int .i64 p.size,.int .i64 p.level,.int .i64 p.birth,.int .u64 p.sum.a,.int .u64 p.sum.b,.int .u64 p.sum.c,.int .u64 p.sum.d]
instance fbytes_fn (x:S4) (W:World):Fn 121 #[.agg #[.int .u64 x.a,.int .u64 x.b,.int .u64 x.c,.int .u64 x.d]] W (.string (bs x 4)):=Fn.of (Bytes_any x) W
theorem raw_size (p:Pt):p.raw.size<=56:=by
 have:=smallS_size [p.ag,p.aa,p.bg,p.ba,p.one,p.birth]
 unfold Pt.raw
 rw [ByteArray.size_append,bs_size]
 simp at this
 omega
set_option maxRecDepth 512 in
instance pbytes_fn (ag aa bg ba:Int) (two:Bool) (size level birth:Int) (x:S4) (W:World) :
  Fn 172 #[.agg #[.int .i64 ag,.int .i64 aa,.int .i64 bg,.int .i64 ba,.bool two,.int .i64 size,.int .i64 level,.int .i64 birth,.int .u64 x.a,.int .u64 x.b,.int .u64 x.c,.int .u64 x.d]] W
   (.tuple #[.string (Pt.bytes ⟨ag,aa,bg,ba,two,size,level,birth,x⟩),.int .i64 (Pt.err ⟨ag,aa,bg,ba,two,size,level,birth,x⟩)]):=by
 refine ⟨?_⟩
 obtain ⟨p,hp⟩:∃ p:Pt,p=⟨ag,aa,bg,ba,two,size,level,birth,x⟩:=⟨_,rfl⟩
 rw [<-hp]
 cases h1:withinL 4294967295 [ag,aa,bg,ba,birth]
 ·have e1:=Lib.hid (show p.ok=false by simp [hp,Pt.ok,h1])
  go_enter Tryz.func172,Tryz.ntmps172
  go_wp2_with (with_reducible refine Fn.go λ g=>?_)
  go_ret2
  exact Ret.mk (by unfold Pt.bytes Pt.err;rw [e1.out];rfl) grown
 ·cases h2:withinL 255 [size,level]
  ·have e1:=Lib.hid (show p.ok=false by simp [hp,Pt.ok,h1,h2])
   go_enter Tryz.func172,Tryz.ntmps172
   go_wp2_with (with_reducible refine Fn.go λ g=>?_)
   go_ret2
   exact Ret.mk (by unfold Pt.bytes Pt.err;rw [e1.out];rfl) grown
  ·have e1:=Lib.hid (show p.ok=true by simp [hp,Pt.ok,h1,h2])
   have hb:(0<=size/\size<=255)/\0<=level/\level<=255:=by simpa [withinL,okN] using h2
   obtain ⟨⟨s0,s1⟩,l0,l1⟩:=hb
   have HP:=Lib.hid hp
   clear hp
   haveI hpad:∀ (o:Int) (W:World),Fn 119 #[.string (smallS [ag,aa,bg,ba,o,birth]++bs x 4),.int .i64 64] W (.string (padS (smallS [ag,aa,bg,ba,o,birth]++bs x 4) 64)):=λ o W =>
    pad_any _ 64 (by omega) (by omega) (by have:=smallS_size [ag,aa,bg,ba,o,birth];rw [ByteArray.size_append,bs_size];simp at this;omega) W
   have hz:∀ o,(smallS [ag,aa,bg,ba,o,birth]).size<=24:=λ o=>by have:=smallS_size [ag,aa,bg,ba,o,birth];simpa using this
   have z0:=hz (size+level*256)
   have z1:=hz (size+level*256+65536)
   clear hz
   cases two
   all_goals
    go_enter Tryz.func172,Tryz.ntmps172
    go_wp2_with (with_reducible refine Fn.go λ g=>?_)
    (first | (with_reducible refine pl2 (.q [0,1,2,3,4,5,6,7,8,9,10,11,12,13,14,17,18] (.g 15 (.q [16,19,20,21,22,23] .d))) ?_) | refine pl1 (.q [0,1,2,3,4,5,6,7,8,9,10,11,12,13,14,17,18] (.g 15 (.q [16,19,20,21,22,23] .d))) ?_);simp only [Plan.run,pick,gZ,gS,gA,gN]
    (repeat go_big_quiet_step (exact qZ));refine nZ ?_
    rintro _ ⟨gp,rfl⟩;go_wp2_with fail;refine And.intro (by first | exact ⟨_,gr_alloc _ _ _⟩ | exact ⟨_,rfl⟩ | exact ⟨_,gr_gr _ _ _⟩) ?_
    (repeat go_big_quiet_step (exact qZ));refine nZ ?_;rintro _ ⟨g,rfl⟩
    go_wp2_with fail
    go_ret2
    exact Ret.mk (by unfold Pt.bytes Pt.err;rw [e1.out];simp [Pt.raw,HP.out,Pt.one]) grown
def rdPt (s:ByteArray):Pt:=⟨numI s 0 4,numI s 4 4,numI s 8 4,numI s 12 4,decide (0 < numI s 16 4 / 65536),numI s 16 4 % 256,numI s 16 4 / 256 % 256,numI s 20 4,rdS4 s 24⟩
def Pt.none:Pt:=⟨0,0,0,0,false,0,0,0,zero4⟩
theorem and255 {x:Int} (h0:0<=x) (h1:x<=131071):bits .and .i64 x 255=x % 256:=by
 obtain ⟨n,rfl⟩:=Int.eq_ofNat_of_zero_le h0
 have hl:n &&& 255=n % 256:=Nat.and_two_pow_sub_one_eq_mod n 8
 have hm:(BitVec.ofInt 64 (n:Int)).toNat=n:=by rw [BitVec.ofInt_natCast,BitVec.toNat_ofNat];exact Nat.mod_eq_of_lt (by omega)
 show IntKind.i64.wrap ((BitVec.ofInt 64 (n:Int) &&& BitVec.ofInt 64 255).toNat:Int)=_
 rw [BitVec.toNat_and,hm,show (BitVec.ofInt 64 255).toNat=255 from rfl,hl]
 exact IntWalk.i64_in _ (by omega)
set_option maxRecDepth 512 in
theorem pread_yes (s:ByteArray) (hs:s.size=64) (h1:numI s 16 4<=131071) (h2:zeroI s 56=true) (W:World):Fn 201 #[.string s] W (.tuple #[.agg (rdPt s).cs,.int .i64 0]):=by
 refine ⟨?_⟩
 haveI:Bd s 0:=⟨by omega,by omega,by omega⟩
 haveI:Bd s 4:=⟨by omega,by omega,by omega⟩
 haveI:Bd s 8:=⟨by omega,by omega,by omega⟩
 haveI:Bd s 12:=⟨by omega,by omega,by omega⟩
 haveI:Bd s 16:=⟨by omega,by omega,by omega⟩
 haveI:Bd s 20:=⟨by omega,by omega,by omega⟩
 haveI:Bd s 56:=⟨by omega,by omega,by omega⟩
 have a0:advI s 0 4=4:=if_pos (by omega)
 have a1:advI s 4 4=8:=if_pos (by omega)
 have a2:advI s 8 4=12:=if_pos (by omega)
 have a3:advI s 12 4=16:=if_pos (by omega)
 have a4:advI s 16 4=20:=if_pos (by omega)
 have a5:advI s 20 4=24:=if_pos (by omega)
 have n4:=(numI_bd s 16 4 (by omega) (by omega)).1
 haveI:∀ (b:Nat) (w:World) [Rdr b s 24 w],FnW 191 #[.pointer (some ⟨b,0,none⟩)] w (.tuple #[.agg #[.int .u64 (rdS4 s 24).a,.int .u64 (rdS4 s 24).b,.int .u64 (rdS4 s 24).c,.int .u64 (rdS4 s 24).d],.int .i64 0]) (w.setCell ⟨b,1,none⟩ (.int .i64 56)) :=
  λ b w _=>fread_rd b s 24 w (by omega) (by omega) (by omega)
 go_enter Tryz.func201,Tryz.ntmps201
 go_wp2_with (with_reducible refine FnX.go ?_)
 refine wp_loop_rounds 7 ?_
 iterate 7 (rw [rounds_succ];go_wp2_with (first | (with_reducible refine Fn.go λ g=>?_) | (with_reducible refine FnW.go λ g=>?_)))
 refine bodyPost_ret ?_ rfl ⟨rfl,grown⟩
 simp [results,Tryz.results201,go_sem,rdPt,Pt.cs]
 exact ⟨and255 n4 h1,and255 (by omega) (by omega)⟩
theorem numL_le (X:Int) (h0:0<=X):∀ n:Nat,(numL (leS X n).data.toList:Int)=X % 256 ^ n
 | 0=>by simp [leS,leB,strOfNums,numL,Int.emod_one]
 | n+1=>by
  have ih:=numL_le X h0 n
  rw [leS_list] at ih ⊢
  rw [leB_succ,List.map_append,numL_append,List.length_map,leB_len]
  simp only [List.map_cons,List.map_nil,numL,Nat.mul_zero,Nat.add_zero]
  rw [Int.natCast_add,ih,Int.natCast_mul]
  have hb:=byteN_bd X n
  have e1:((UInt8.ofNat (byteN X n).toNat).toNat:Int)=byteN X n:=by rw [UInt8.toNat_ofNat'];omega
  have e2:byteN X n=X / 256 ^ n % 256:=by unfold byteN;rw [Int.pow_mul];rfl
  rw [e1,e2,Int.natCast_pow,show (256:Int) ^ (n+1)=256 ^ n*256 from Int.pow_succ _ _]
  have hp:(0:Int) < 256 ^ n:=Int.pow_pos (by omega)
  generalize (256:Int) ^ n=a at hp ⊢
  rw [Int.emod_def X a,Int.emod_def (X / a) 256,Int.emod_def X (a*256),<- Int.ediv_ediv_of_nonneg (by omega),Int.mul_sub,Int.mul_assoc]
  omega
theorem num_field (s:ByteArray) (A B:List UInt8) (X:Int) (i n:Nat) (h0:0<=X) (h1:X < 256 ^ n) (hA:A.length=i) (h:s.data.toList=A++((leS X n).data.toList++B)):(num s i n:Int)=X:=by
 have hl:(leS X n).data.toList.length=n:=by rw [size_list,leS_size]
 unfold num
 rw [h,<- hA,List.drop_left,List.take_left' hl,numL_le X h0 n,Int.emod_eq_of_lt h0 h1]
def Pt.fit (p:Pt):Prop:=p.ok=true/\p.sum.ok
theorem Pt.fit_in {p:Pt} (h:p.fit):(0<=p.ag/\p.ag < 256 ^ 4)/\(0<=p.aa/\p.aa < 256 ^ 4)/\(0<=p.bg/\p.bg < 256 ^ 4)/\(0<=p.ba/\p.ba < 256 ^ 4)/\(0<=p.birth/\p.birth < 256 ^ 4)/\(0<=p.size/\p.size<=255)/\0<=p.level/\p.level<=255:=by
 have:=h.1
 simp only [Pt.ok,withinL,okN,List.all_cons,List.all_nil,Bool.and_true,Bool.and_eq_true,decide_eq_true_eq] at this
 omega
theorem u32S_in {n:Int} (h0:0<=n) (h1:n < 256 ^ 4):u32S n=leS n 4:=if_pos ⟨h0,by omega⟩
theorem Pt.list {p:Pt} (h:p.fit):p.bytes.data.toList=(leS p.ag 4).data.toList++((leS p.aa 4).data.toList++((leS p.bg 4).data.toList++((leS p.ba 4).data.toList++((leS p.one 4).data.toList++((leS p.birth 4).data.toList ++
  ((leS p.sum.a 8).data.toList++((leS p.sum.b 8).data.toList++((leS p.sum.c 8).data.toList++((leS p.sum.d 8).data.toList++(zerosB 8).data.toList))))))))):=by
 obtain ⟨a1,a2,a3,a4,a5,a6,a7⟩:=Pt.fit_in h
 have h1:0<=p.one/\p.one < 256 ^ 4:=by unfold Pt.one;split <;> omega
 have hr:p.raw.size=56:=by
  unfold Pt.raw
  rw [ByteArray.size_append,bs_size]
  simp only [smallS,List.foldl_cons,List.foldl_nil,u32S_in a1.1 a1.2,u32S_in a2.1 a2.2,u32S_in a3.1 a3.2,u32S_in a4.1 a4.2,u32S_in a5.1 a5.2,u32S_in h1.1 h1.2,ByteArray.size_append,leS_size,nilB_size]
 unfold Pt.bytes
 rw [if_pos h.1]
 unfold padS
 rw [hr]
 unfold Pt.raw
 simp only [smallS,List.foldl_cons,List.foldl_nil,u32S_in a1.1 a1.2,u32S_in a2.1 a2.2,u32S_in a3.1 a3.2,u32S_in a4.1 a4.2,u32S_in a5.1 a5.2,u32S_in h1.1 h1.2,bs,S4.nth,cat_list,List.append_assoc]
 simp [nilB]
theorem Pt.bytes_size {p:Pt} (h:p.fit):p.bytes.size=64:=by
 rw [<-size_list,Pt.list h]
 simp only [List.length_append,size_list,leS_size,zerosB_size]
theorem numI_field (s:ByteArray) (A B:List UInt8) (X i n:Int) (h0:0<=X) (h1:X < 256 ^ n.toNat) (hi:0<=i) (hn:0<=n) (hA:A.length=i.toNat) (h:s.data.toList=A++((leS X n.toNat).data.toList++B)):numI s i n=X:=by
 have hl:(leS X n.toNat).data.toList.length=n.toNat:=by rw [size_list,leS_size]
 have hz:=congrArg List.length h
 rw [size_list,List.length_append,List.length_append,hl] at hz
 unfold numI
 rw [if_pos (by omega)]
 exact num_field s A B X i.toNat n.toNat h0 h1 hA h
theorem Pt.eq_rd {p:Pt} (h:p.fit):rdPt p.bytes=p:=by
 obtain ⟨a1,a2,a3,a4,a5,a6,a7⟩:=Pt.fit_in h
 have h1:0<=p.one/\p.one < 256 ^ 4:=by unfold Pt.one;split <;> omega
 have hl:=Pt.list h
 have e0:=numI_field p.bytes [] _ p.ag 0 4 a1.1 a1.2 (by omega) (by omega) rfl hl
 have e1:=numI_field p.bytes (leS p.ag 4).data.toList _ p.aa 4 4 a2.1 a2.2 (by omega) (by omega) (by rw [size_list,leS_size];rfl) hl
 have l2:=hl
 rw [<-List.append_assoc] at l2
 have e2:=numI_field p.bytes _ _ p.bg 8 4 a3.1 a3.2 (by omega) (by omega) (by simp only [List.length_append,size_list,leS_size];rfl) l2
 rw [<-List.append_assoc] at l2
 have e3:=numI_field p.bytes _ _ p.ba 12 4 a4.1 a4.2 (by omega) (by omega) (by simp only [List.length_append,size_list,leS_size];rfl) l2
 rw [<-List.append_assoc] at l2
 have e4:=numI_field p.bytes _ _ p.one 16 4 h1.1 h1.2 (by omega) (by omega) (by simp only [List.length_append,size_list,leS_size];rfl) l2
 rw [<-List.append_assoc] at l2
 have e5:=numI_field p.bytes _ _ p.birth 20 4 a5.1 a5.2 (by omega) (by omega) (by simp only [List.length_append,size_list,leS_size];rfl) l2
 have s8:∀ n:Nat,n < MM->0<=(n:Int)/\(n:Int) < 256 ^ Int.toNat 8:=λ n hn=>⟨by omega,by rw [show (256:Int) ^ Int.toNat 8=(MM:Nat) by decide];omega⟩
 obtain ⟨q0,q1,q2,q3⟩:=h.2
 rw [<-List.append_assoc] at l2
 have f0:=numI_field p.bytes _ _ p.sum.a 24 8 (s8 _ q0).1 (s8 _ q0).2 (by omega) (by omega) (by simp only [List.length_append,size_list,leS_size];rfl) l2
 rw [<-List.append_assoc] at l2
 have f1:=numI_field p.bytes _ _ p.sum.b 32 8 (s8 _ q1).1 (s8 _ q1).2 (by omega) (by omega) (by simp only [List.length_append,size_list,leS_size];rfl) l2
 rw [<-List.append_assoc] at l2
 have f2:=numI_field p.bytes _ _ p.sum.c 40 8 (s8 _ q2).1 (s8 _ q2).2 (by omega) (by omega) (by simp only [List.length_append,size_list,leS_size];rfl) l2
 rw [<-List.append_assoc] at l2
 have f3:=numI_field p.bytes _ _ p.sum.d 48 8 (s8 _ q3).1 (s8 _ q3).2 (by omega) (by omega) (by simp only [List.length_append,size_list,leS_size];rfl) l2
 obtain ⟨ag,aa,bg,ba,two,size,level,birth,a,b,c,d⟩:=p
 have g0:rdS4 (Pt.bytes ⟨ag,aa,bg,ba,two,size,level,birth,⟨a,b,c,d⟩⟩) 24=⟨a,b,c,d⟩:=by
  unfold rdS4
  dsimp only at f0 f1 f2 f3
  rw [f0,show (24:Int)+8=32 from rfl,f1,show (24:Int)+16=40 from rfl,f2,show (24:Int)+24=48 from rfl,f3]
  rfl
 unfold rdPt
 rw [e0,e1,e2,e3,e4,e5,g0]
 dsimp only [Pt.one] at *
 simp only [Pt.mk.injEq,true_and,and_true]
 cases two <;> simp <;> omega
theorem alloc_heap_new (w:World) (o:Obj):(w.alloc o).heap[w.heap.size]?=some o:=by show (w.heap.push o)[w.heap.size]?=_;simp
theorem ownsRow_off {W W':World} {B:Nat} {e:TypeId} {sz:Nat} {v:Value} {n:Nat} {xs:List Value} (h:W.ownsRow B e sz v n xs) (hk:∀ g,v.ownBlock=some g->W'.heap[g]?=W.heap[g]?):W'.ownsRow B e sz v n xs:=by
 refine ⟨h.1,?_⟩
 rcases h.2 with hn | ⟨g,cap,cur,rfl,hb,hg,hrest⟩
 ·exact .inl hn
 ·exact .inr ⟨g,cap,cur,rfl,hb,(hk g rfl).trans hg,hrest⟩
theorem wpList_append_run {P:Program} {ops:Array Oper} {rest:List Oper} {o:Oper} {a:Act} {Q:Exit->Act->World->Prop} {w:World} (hgd:o.guard=none) (d s:Operand) (t t':TypeId)
  (ho:o.op=.call { callee:=.builtin .append,args:=#[d,s],argTypes:=#[t,t'] }) (v u:Value) (hd:a.eval d=v) (hs:a.eval s=u) {v':Value} {w':World}
  (hr:(Builtin.append_ #[t,t'] o.type #[v,u]).run P w=.ok v' w') (h:wpList P ops Q rest (a.put o.dst v') w'):wpList P ops Q (o::rest) a w:=by
 refine wpList_plain hgd λ K hK=>?_
 unfold Oper.wp execOp
 simp only [ho,resolve,invoke,builtin,Sem.run_bind,Sem.run_pure,Result.andThen_ok,List.map_toArray,List.map_cons,List.map_nil,hd,hs,hr]
 exact hK _ _ h
theorem run_append_string_at {P:Program} (w:World) (base:Nat) (t u ty e:TypeId) (i:TypeInfo) (ht:P.underlying t=some (.slice e)) (hu:P.underlying u=some .string) (hi:P.info? e=some i) (hz:i.zero=some (.int .u8 0))
  (hsize:i.size=1) (hby:i.bytes=1) (v:Value) (n:Nat) (xs:List Value) (hown:w.ownsRow base e 1 v n xs) (s:ByteArray) (h63:n+s.size<=maxLen) (hbytes:n+s.size<=140737488355328) (hbase:base<=w.heap.size) :
  ∃ v' w',(Builtin.append_ #[t,u] ty #[v,.string s]).run P w=.ok v' w'/\w'.ownsRow base e 1 v' (n+s.size) (xs++Lib.strCells s)/\w.grownBy w' v.ownBlock/\(v'=.slice none 0 0 ↔ v=.slice none 0 0/\s.size=0)/\(v'.ownBlock=v.ownBlock\/v'.ownBlock=some w.heap.size):=by
 obtain ⟨v',w',hr,h2,h3,h4⟩:=Lib.run_append_own_string (P:=P) w base t u ty e i ht hu hi hz hsize hby v n xs hown s h63 hbytes hbase
 refine ⟨v',w',hr,h2,h3,h4,?_⟩
 have hsmall:n+s.size<=9223372036854775807:=by simp only [maxLen] at h63;omega
 have hxl:xs.length=n:=by simpa using hown.1
 rcases hown.2 with ⟨rfl,rfl⟩ | ⟨g,cap,cur,rfl,hbg,hg,hnc,hcm,hcs,htake⟩
 ·by_cases hm:s.size=0
  ·left;rw [h4.2 ⟨rfl,hm⟩]
  ·have hr':=run_append_nil_string (P:=P) w t u ty e i (.int .u8 0) ht hu hi hz s (by omega) (by omega) (by rw [hby];omega)
   rw [hr'] at hr
   injection hr with e1 _
   right;rw [<-e1];rfl
 ·by_cases hroom:n+s.size<=cap
  ·have hr':=Lib.run_append_room_string (P:=P) w t u ty e i ht hu hi hsize g n cap cur hg s hroom (by omega)
   rw [hr'] at hr
   injection hr with e1 _
   left;rw [<-e1];rfl
  ·have hr':=Lib.run_append_grow_string (P:=P) w t u ty e i (.int .u8 0) ht hu hi hz ⟨g,0,none⟩ n cap xs (by rw [hsize];simpa using hxl) (hown.cells (g:=g) rfl) s (by omega) (by omega) (by rw [hby];exact growslice_fits (by omega) (by omega))
   rw [hr'] at hr
   injection hr with e1 _
   right;rw [<-e1];rfl
structure BIs (h:Hl) (b:Nat) (l:List UInt8) (p v:Value):Prop where
 self:p=.pointer none\/p=.pointer (some ⟨b,0,none⟩)
 blk:h b=some (.cells #[p,v] 160 (0,0))
 dom:∀ k,h k≠none->k=b\/v.ownBlock=some k
 row:(v=.slice none 0 0/\l=[])\/∃ g cap cur,v=.slice (some ⟨g,0,none⟩) l.length cap/\l≠[]/\h g=some (.cells cur 5 (0,0))/\l.length<=cap/\cap<=maxLen/\cur.size=cap/\cur.toList.take l.length=Lib.byteCells l
def Bl (b:Nat) (l:List UInt8) (h:Hl):Prop:=∃ p v,BIs h b l p v
theorem BIs.own {h:Hl} {b:Nat} {l:List UInt8} {p v:Value} (i:BIs h b l p v) (W:World) [Has W h]:W.ownsRow 0 5 1 v l.length (Lib.byteCells l):=by
 refine ⟨by rw [Lib.byteCells_length,Nat.mul_one],?_⟩
 rcases i.row with ⟨h1,h2⟩ | ⟨g,cap,cur,h1,_,h2,h3,h4,h5,h6⟩
 ·left;rw [h2];exact ⟨h1,rfl⟩
 ·right;exact ⟨g,cap,cur,h1,Nat.zero_le _,Has.get _ _ h2,h3,h4,by rw [h5,Nat.mul_one],by rw [Nat.mul_one];exact h6⟩
theorem BIs.ne {h:Hl} {b:Nat} {l:List UInt8} {p v:Value} (i:BIs h b l p v):v.ownBlock≠some b:=by
 rcases i.row with ⟨h1,_⟩ | ⟨g,cap,cur,h1,_,h2,_⟩
 ·rw [h1];intro e;cases e
 ·intro e
  rw [h1] at e
  have e:g=b:=by injection e
  subst e
  rw [i.blk] at h2
  cases h2
theorem bis_of (W:World) (b:Nat) (l:List UInt8) (p v:Value) (hs:p=.pointer none\/p=.pointer (some ⟨b,0,none⟩)) (hb:W.heap[b]?=some (.cells #[p,v] 160 (0,0))) (ho:W.ownsRow 0 5 1 v l.length (Lib.byteCells l)) (hl:l=[]->v=.slice none 0 0) :
  ∃ h:Hl,Has W h/\BIs h b l p v:=by
 refine ⟨λ k=>if k=b\/v.ownBlock=some k then W.heap[k]? else none,⟨λ n o e=>?_⟩,hs,by simp [hb],λ k hk=>?_,?_⟩
 ·split at e
  ·exact e
  ·cases e
 ·split at hk
  ·assumption
  ·exact absurd rfl hk
 ·rcases ho.2 with ⟨h1,h2⟩ | ⟨g,cap,cur,h1,_,h2,h3,h4,h5,h6⟩
  ·left;exact ⟨h1,List.eq_nil_of_length_eq_zero h2⟩
  ·by_cases hn:l=[]
   ·left;exact ⟨hl hn,hn⟩
   right;exact ⟨g,cap,cur,h1,hn,by rw [h1];simp [Value.ownBlock,h2],h3,h4,by omega,by rw [Nat.mul_one] at h6;exact h6⟩
theorem bl_new (w:World):∃ h:Hl,Has (w.alloc (.cells #[.pointer none,.slice none 0 0] 160)) h/\Bl w.heap.size [] h/\∀ k,k < w.heap.size->h k=none:=by
 obtain ⟨h,i,j⟩:=bis_of (w.alloc (.cells #[.pointer none,.slice none 0 0] 160)) w.heap.size [] _ _ (.inl rfl) (alloc_heap_new _ _) (World.ownsRow_nil _ _ _ _) (λ _=>rfl)
 refine ⟨h,i,⟨_,_,j⟩,λ k hk=>?_⟩
 cases e:h k with
 | none=>rfl
 | some o =>
  rcases j.dom k (by rw [e];simp) with h1 | h1
  ·omega
  ·cases h1
theorem copyCheck_used (b:Nat) (w:World) (h0:w.cell? ⟨b,0,none⟩=some (.pointer (some ⟨b,0,none⟩))) :
  Calls Tryz.prog 139 #[.pointer (some ⟨b,0,none⟩)] w λ e w'=>e=.returned (.tuple #[])/\w'=w:=by
 obtain ⟨j,hj,_⟩:=Option.map_eq_some_iff.1 Tryz.Builder_Extra_169.sizeBuilder
 have hj:Tryz.prog.info? 160=some j:=hj
 go_enter Tryz.func139,Tryz.ntmps139
 go_wp2
 rw [Lib.run_neq_ptr_same w _ Tryz.underlying158 hj]
 go_wp2
 go_end0
 exact ⟨rfl,rfl⟩
theorem copyCheck_fresh (b:Nat) (w:World) (h0:w.cell? ⟨b,0,none⟩=some (.pointer none)) (hsh:w.shape? b=some (160,2)) (hfz:w.frozen? ⟨b,0,none⟩=false) :
  Calls Tryz.prog 139 #[.pointer (some ⟨b,0,none⟩)] w λ e w'=>e=.returned (.tuple #[])/\w'=w.setCell ⟨b,0,none⟩ (.pointer (some ⟨b,0,none⟩)):=by
 obtain ⟨j,hj,hjs⟩:=Option.map_eq_some_iff.1 Tryz.Builder_Extra_169.sizeBuilder
 have hj:Tryz.prog.info? 160=some j:=hj
 go_enter Tryz.func139,Tryz.ntmps139
 go_wp2
 rw [Lib.run_to_unsafe w ⟨b,0,none⟩ Tryz.underlying158 Tryz.underlying297 hj (by rw [hjs];decide) hsh (Nat.zero_lt_succ 1)]
 simp only [Result.andThen]
 rw [Oper.upon_value]
 go_wp2
 rw [run_callFunc_extern Tryz.func199 (by kernel_rfl) (by kernel_rfl) (by kernel_rfl) (e:=Extern.AbiNoEscape.same) (by kernel_rfl)]
 rw [Lib.run_noEscape]
 simp only [Result.andThen]
 rw [Oper.upon_value]
 go_wp2
 rw [Lib.run_from_unsafe w ⟨b,0,none⟩ Tryz.underlying297 Tryz.underlying158 hj hsh Tryz.Builder_Extra_169.liesBuilder]
 simp only [Result.andThen]
 rw [Oper.upon_value]
 go_wp2
 go_end0
 exact ⟨rfl,rfl⟩
theorem copyCheck_b (h:Hl) (b:Nat) (l:List UInt8) (p v:Value) (i:BIs h b l p v) (w:World) [j:Has w h] :
  Calls Tryz.prog 139 #[.pointer (some ⟨b,0,none⟩)] w λ e w'=>e=.returned (.tuple #[])/\w'.heap[b]?=some (.cells #[.pointer (some ⟨b,0,none⟩),v] 160 (0,0))/\w'.ownsRow 0 5 1 v l.length (Lib.byteCells l)/\Mod h w w'/\w'.heap.size=w.heap.size:=by
 have hh:=j.get _ _ i.blk
 have ho:=i.own w
 have hne:=i.ne
 rcases i.self with rfl | rfl
 ·refine (copyCheck_fresh b w (by rw [Lib.cell_of_heap hh];rfl) (by simp [World.shape?,hh]) (Lib.frozen_of_heap hh 0)).mono ?_
  rintro e w' ⟨rfl,rfl⟩
  exact ⟨rfl,by simp [World.setCell,Array.getElem?_modify,hh],ownsRow_off ho λ k hk=>Below.heap_setCell _ _ _ _ (λ e=>hne (by rw [hk];simpa using e)),(Mod.refl h w).setCell (.inr (by rw [i.blk];simp)) _,World.size_setCell ..⟩
 ·refine (copyCheck_used b w (by rw [Lib.cell_of_heap hh];rfl)).mono ?_
  rintro e w' ⟨rfl,rfl⟩
  exact ⟨rfl,hh,ho,Mod.refl _ _,rfl⟩
theorem write_h (h:Hl) (b:Nat) (l:List UInt8) (s:ByteArray) (i:Bl b l h) (w:World) [j:Has w h] (hlen:l.length+s.size<=1000000) :
  Calls Tryz.prog 78 #[.pointer (some ⟨b,0,none⟩),.string s] w λ e w'=>e=.returned (.tuple #[.int .i64 s.size,.nilIface])/\Turns w h (Bl b (l++s.data.toList)) w':=by
 obtain ⟨p,v,i⟩:=i
 obtain ⟨i0,hi,hz0,hz1,hz2⟩:=info_parts Tryz.Builder_Extra_169.infoByte
 go_enter Tryz.func78,Tryz.ntmps78
 go_wp2_with (go_at_call 139;refine (copyCheck_b h b l p v i _).mono ?_)
 rintro e w1 ⟨rfl,hbk,hown,hm,hzw⟩
 have hne:=i.ne
 have hb':b < w.heap.size:=(j.lt i.blk)
 have c0:w1.cell? ⟨b,0,none⟩=some (.pointer (some ⟨b,0,none⟩)):=by rw [Lib.cell_of_heap hbk];rfl
 have c1:w1.cell? ⟨b,1,none⟩=some v:=by rw [Lib.cell_of_heap hbk];rfl
 obtain ⟨v',w2,hr,ho2,hg2,hiff,hat⟩:=run_append_string_at (P:=Tryz.prog) w1 0 99 9 99 5 i0 Tryz.underlying99 Tryz.underlying9 hi hz0 hz1 hz2 v l.length _ hown s (by unfold maxLen;omega) (by omega) (Nat.zero_le _)
 have hb2:w2.heap[b]?=some (.cells #[.pointer (some ⟨b,0,none⟩),v] 160 (0,0)):=by rw [hg2.block b (by omega) (λ e=>hne e.symm)];exact hbk
 have d0:w2.cell? ⟨b,0,none⟩=some (.pointer (some ⟨b,0,none⟩)):=by rw [Lib.cell_of_heap hb2];rfl
 have d1:w2.cell? ⟨b,1,none⟩=some v:=by rw [Lib.cell_of_heap hb2];rfl
 have f1:w2.frozen? ⟨b,1,none⟩=false:=Lib.frozen_of_heap hb2 1
 have HO:=Lib.hid ho2
 have HA:=Lib.hid hat
 have HN:Hid (l++s.data.toList=[]->v'=.slice none 0 0):=λ e=>by
  obtain ⟨e1,e2⟩:=List.append_eq_nil_iff.1 e
  refine hiff.2 ⟨?_,by rw [<-size_list,e2];rfl⟩
  rcases i.row with ⟨h1,_⟩ | ⟨g,cap,cur,_,h1,_⟩
  ·exact h1
  ·exact absurd e1 h1
 have HM:Hid (Mod h w w2):=hm.trans ⟨hg2.os,hg2.tape,hg2.output,hg2.size,λ k hk e=>hg2.block k hk (λ e'=>by
  rcases i.row with ⟨h1,_⟩ | ⟨g,cap,cur,h1,_,h2,_⟩
  ·rw [h1] at e';cases e'
  ·rw [h1] at e'
   have e':k=g:=by injection e'
   rw [<-e'] at h2;rw [h2] at e;cases e)⟩ λ _ _ e=>e
 have HB:=Lib.hid hb2
 have hz2':=hg2.size
 obtain ⟨ao,n',cap,rfl⟩:∃ ao n' cap,v'=.slice ao n' cap:=by
  rcases ho2.2 with ⟨hv,_⟩ | ⟨g,cap,cur,hv,_⟩
  ·exact ⟨_,_,_,hv⟩
  ·exact ⟨_,_,_,hv⟩
 have HI:=Lib.hid i
 clear hown ho2 hat hm hg2 hi hz0 hz1 hz2 hiff i hb2 hbk
 go_wp2_with (at_builtin;refine wpList_append_run rfl _ _ _ _ rfl _ _ rfl rfl hr ?_)
 go_ret2
 refine ⟨rfl,?_⟩
 have i:=HI.out
 have hne2:(Value.slice ao n' cap).ownBlock≠some b:=λ e=>by
  rcases HA.out with h1 | h1
  ·exact i.ne (h1.symm.trans e)
  ·rw [h1] at e
   have:w1.heap.size=b:=by injection e
   omega
 have hb3:(w2.setCell ⟨b,1,none⟩ (.slice ao n' cap)).heap[b]?=some (.cells #[.pointer (some ⟨b,0,none⟩),.slice ao n' cap] 160 (0,0)):=by simp [World.setCell,Array.getElem?_modify,HB.out]
 obtain ⟨h',j',i'⟩:=bis_of (w2.setCell ⟨b,1,none⟩ (.slice ao n' cap)) b (l++s.data.toList) _ _ (.inr rfl) hb3 (by
  have hO:=ownsRow_off (W':=w2.setCell ⟨b,1,none⟩ (.slice ao n' cap)) HO.out (λ k hk=>Below.heap_setCell _ _ _ _ (λ e=>hne2 (by rw [hk];exact congrArg some e)))
  have e1:(l++s.data.toList).length=l.length+s.size:=by rw [List.length_append,size_list]
  have e2:Lib.byteCells (l++s.data.toList)=Lib.byteCells l++Lib.strCells s:=by simp [Lib.byteCells,Lib.strCells]
  rw [e1,e2];exact hO) HN.out
 refine Turns.mk h' (HM.out.setCell (.inr (by show h b≠none;rw [i.blk];simp)) _) j' (λ n hn e=>?_) ⟨_,_,i'⟩
 cases e':h' n with
 | none=>rfl
 | some o =>
  rcases i'.dom n (by rw [e'];simp) with h1 | h1
  ·rw [h1,i.blk] at e;cases e
  ·rcases HA.out with h2 | h2
   ·rw [h2] at h1
    rcases i.row with ⟨h3,_⟩ | ⟨g,cp,cur,h3,_,h4,_⟩
    ·rw [h3] at h1;cases h1
    ·rw [h3] at h1
     have h1:g=n:=by injection h1
     rw [<-h1,h4] at e;cases e
   ·rw [h2] at h1
    have:w1.heap.size=n:=by injection h1
    omega
theorem str_h (h:Hl) (b:Nat) (l:List UInt8) (i:Bl b l h) (w:World) [j:Has w h] :
  Calls Tryz.prog 79 #[.pointer (some ⟨b,0,none⟩)] w λ e w'=>e=.returned (.string ⟨l.toArray⟩)/\Mod h w w':=by
 obtain ⟨p,v,i⟩:=i
 have hbk:=j.get _ _ i.blk
 rcases i.row with ⟨h1,h2⟩ | ⟨g,cap,cur,h1,hl0,h2,h3,h4,h5,h6⟩
 ·subst h1;subst h2
  have hUS:∀ (W:World) (q:Option Addr),(Builtin.unsafeString_ #[237,3] 9 #[.pointer q,.int .i64 0]).run Tryz.prog W=.ok (.string .empty) W:=λ W q=>Lib.run_unsafeString_none W _ _ _ q
  have c1:w.drew.cell? ⟨b,1,none⟩=some (.slice none 0 0):=by
   have:w.drew.heap[b]?=some (.cells #[p,.slice none 0 0] 160 (0,0)):=hbk
   rw [Lib.cell_of_heap this];rfl
  have hSD:(Builtin.unsafeSliceData_ #[99] 237 #[.slice none 0 0]).run Tryz.prog w.drew=.ok (.pointer none) w.drew:=rfl
  clear i hbk
  go_enter Tryz.func79,Tryz.ntmps79
  go_wp2
  go_region
  all_goals (go_wp2;go_ret;exact ⟨rfl,(Mod.refl h w).drew⟩)
 ·have hown:=i.own w
  subst h1
  have hg:=j.get _ _ h2
  have hn0:l.length≠0:=by simpa using hl0
  have c1:w.drew.cell? ⟨b,1,none⟩=some (.slice (some ⟨g,0,none⟩) l.length cap):=by
   have:w.drew.heap[b]?=some (.cells #[p,.slice (some ⟨g,0,none⟩) l.length cap] 160 (0,0)):=hbk
   rw [Lib.cell_of_heap this];rfl
  have hSD:(Builtin.unsafeSliceData_ #[99] 237 #[.slice (some ⟨g,0,none⟩) l.length cap]).run Tryz.prog w.drew=.ok (.pointer (some ⟨g,0,none⟩)) w.drew :=
   Lib.run_unsafeSliceData_row _ _ _ _ _ _ (by omega)
  have hUS:(Builtin.unsafeString_ #[237,3] 9 #[.pointer (some ⟨g,0,none⟩),.int .i64 l.length]).run Tryz.prog w.drew=.ok (.string ⟨l.toArray⟩) (w.drew.freeze ⟨g,0,none⟩ l.length):=by
   refine Lib.run_unsafeString_row w.drew 237 3 9 5 Tryz.underlying237 Tryz.Builder_Extra_169.cellsByte g cur.size (by have hg':w.drew.heap[g]?=some (.cells cur 5 (0,0)):=hg;simp [World.shape?,hg']) l hl0 (by omega) (by unfold maxLen at h4;omega) ?_
   intro k x hx
   exact hown.cells (g:=g) rfl k (.int .u8 x.toNat) (by simp [Lib.byteCells,hx])
  have HM:Hid (Mod h w (w.drew.freeze ⟨g,0,none⟩ l.length)):=by
   refine (Mod.refl h w).drew.trans (h':=h) ?_ λ _ _ e=>e
   unfold World.freeze
   split
   ·exact Mod.refl _ _
   ·refine ⟨rfl,rfl,rfl,by simp,λ k hk e=>?_⟩
    simp only [Array.getElem?_modify]
    rw [if_neg (λ e':g=k=>by rw [<-e',h2] at e;cases e)]
  clear i hbk hown hg h2 h3 h4 h5 h6
  go_enter Tryz.func79,Tryz.ntmps79
  go_wp2
  go_region
  all_goals (go_wp2;go_ret;exact ⟨rfl,HM.out⟩)
end Go.Proofs.YtlfjdjndhcmliaaGreatDoor
