/- WholeGeoms, part 28. -/
import Derived.Test.YtlfjdjndhcmliaaGreatDoorA05
import Derived.Test.YtlfjdjndhcmliaaGreatDoorA10
import Derived.Test.YtlfjdjndhcmliaaGreatDoorA14
import Derived.Test.YtlfjdjndhcmliaaGreatDoorA27
import Derived.Test.YtlfjdjndhcmliaaGreatDoorA24
import Derived.Test.YtlfjdjndhcmliaaGreatDoorA19
import Derived.Test.YtlfjdjndhcmliaaGreatDoorA09
import Derived.DeepKeys4
set_option maxRecDepth 100000
set_option maxHeartbeats 4000000
set_option linter.all false
namespace Go.Proofs.YtlfjdjndhcmliaaGreatDoor
open Go.RowKit Go.Sort
def fillS (b:UInt8) (n:Nat):ByteArray:=⟨(List.replicate n b).toArray⟩
theorem fillS_size (b:UInt8) (n:Nat):(fillS b n).size=n:=by show (List.replicate n b).toArray.size=n;simp
theorem fill_fn (b:UInt8) (n:Nat) (hn:n<=1000) (W:World):Fn 53 #[.int .u8 b.toNat,.int .i64 n] W (.string (fillS b n)):=by
 refine ⟨?_⟩
 go_enter Tryz.func53,Tryz.ntmps53
 go_wp2_with fail
 go_loopw [5,6] (λ ov iv wr=>∃ (k:Nat) (ad:Option Addr) (cap:Nat),k<=n/\iv=.int .i64 k/\ov=.slice ad k cap/\OwnS 5 1 ad k cap (byV (List.replicate k b)) wr W)
  (λ _ i _=>n - (intOf i).toNat)
 case atStart=>exact ⟨0,none,0,Nat.zero_le _,rfl,rfl,OwnS.nil ..⟩
 case round =>
  obtain ⟨k,ad,cap,hk,rfl,rfl,ho⟩:=hrel
  obtain ⟨g,rfl⟩:=ho.grw
  by_cases hlt:k < n
  ·go_wp2_with (at_builtin;(with_reducible apply wpList_app1);(·exact rfl);(·exact rfl);(·exact ii);(·exact ii);(·exact ii);(·exact rfl);(·decide);(·omega);intro gA capA gW hOwn)
   refine ⟨⟨k+1,some ⟨gA,0,none⟩,capA,hlt,by go_num,rfl,?_⟩,by simp [intOf];omega⟩
   have e:byV (List.replicate (k+1) b)=byV (List.replicate k b)++[.int .u8 b.toNat]:=by simp [byV,List.replicate_succ']
   rw [e]
   exact hOwn
  ·obtain rfl:n=k:=by omega
   have hconv:(convert 99 9 (.slice ad n cap)).run Tryz.prog (gr W g)=.ok (.string (fillS b n)) (gr W g):=by
    rcases ho.own.2 with ⟨h1,h2⟩ | ⟨g',_,_,e,_⟩
    ·obtain rfl:n=0:=by omega
     injection h1 with h1
     subst h1
     rfl
    ·injection e with e1
     subst e1
     obtain ⟨f1,_,_⟩:=ho.facts
     have:=run_convert_bytes_back (P:=Tryz.prog) (gr W g) 99 9 5 ⟨g',0,none⟩ cap (List.replicate n b) Tryz.underlying99 Tryz.underlying5 Tryz.underlying9 λ i hi=>by
      have e:(⟨g',0,none⟩:Addr).add i=⟨g',i,none⟩:=by unfold Addr.add;split <;> simp_all
      rw [e]
      exact f1 i _ (by rw [byV,List.getElem?_map,List.getElem?_eq_getElem hi];rfl)
     rwa [List.length_replicate] at this
   go_wp2_with fail
   go_ret
   exact ⟨rfl,below_gr _ _⟩
theorem zerosB_snoc (s:ByteArray) (k:Nat):s++zerosB k++⟨#[0]⟩=s++zerosB (k+1):=by
 apply ba_ext
 rw [cat_list,cat_list,cat_list,zerosB_list,zerosB_list,List.replicate_succ',List.append_assoc]
theorem cat_nil (s:ByteArray):s++zerosB 0=s:=by
 apply ba_ext
 rw [cat_list,zerosB_list,List.replicate_zero,List.append_nil]
theorem byteAt_z (s:ByteArray) (k j:Nat):byteAt (s++zerosB k) j=byteAt s j:=by
 rw [byteAt_cat,zerosB_at]
 split
 ·rfl
 ·rw [byteAt_ge (by omega)]
theorem cut_pad {s:ByteArray} {n k:Nat} (h:n<=s.size+k):(s++zerosB k).extract 0 n=cutT s n:=by
 refine ba_eq_of (n:=n) (by rw [ByteArray.size_extract,cat_size,zerosB_size];omega) (txt_size ..) λ j hj=>?_
 rw [byteAt_ext,if_pos (by omega),byteAt_z,cutT,txt_at hj,Nat.zero_add]
theorem rtrunc_fn (s:ByteArray) (n:Nat) (hs:s.size<=100000) (hn:n<=100000) (W:World):Fn 50 #[.string s,.int .i64 n] W (.string (cutT s n)):=by
 refine ⟨?_⟩
 obtain ⟨M,hM⟩:∃ M,M=max s.size n:=⟨_,rfl⟩
 have hM1:s.size<=M:=by omega
 have hM2:M<=100000:=by omega
 have hM3:n<=M:=by omega
 have HM:Hid (M=s.size\/M=n):=by show _\/_;omega
 clear hM
 go_enter Tryz.func50,Tryz.ntmps50
 go_wp2_with fail
 go_loopw [0] (λ sv wr=>∃ k:Nat,s.size+k<=M/\sv=.string (s++zerosB k)/\∃ g,wr=gr W g) (λ sv _=>match sv with | .string x=>M - x.size | _=>0)
 case atStart=>exact ⟨0,by omega,by rw [cat_nil],ex_gr W⟩
 case round =>
  obtain ⟨k,hk,rfl,g,rfl⟩:=hrel
  have hz:(s++zerosB k).size=s.size+k:=by rw [cat_size,zerosB_size]
  by_cases hlt:s.size+k < n
  ·have hz2:=zerosB_snoc s k
   go_wp2_with fail
   exact ⟨⟨k+1,by omega,rfl,_,rfl⟩,by simp only [cat_size,zerosB_size];omega⟩
  ·have he:=cut_pad (s:=s) (n:=n) (k:=k) (by omega)
   go_wp2_with fail
   go_ret
   exact Ret.mk rfl grown
theorem wr_pad {s t:ByteArray} {off k:Nat} (h0:t.size≠0) (h:off<=s.size+k) (hk:s.size+k=max s.size off) :
  wrT s off t=if off+t.size < s.size+k then (s++zerosB k).extract 0 off++t++(s++zerosB k).extract (off+t.size) (s.size+k) else (s++zerosB k).extract 0 off++t:=by
 have hm:max s.size (if t.size=0 then 0 else off+t.size)=max (s.size+k) (off+t.size):=by rw [if_neg h0];omega
 have e1:((s++zerosB k).extract 0 off++t).size=off+t.size:=by rw [cat_size,ByteArray.size_extract,cat_size,zerosB_size];omega
 unfold wrT
 rw [hm]
 split
 ·rename_i h1
  refine ba_eq_of (n:=s.size+k) (by rw [txt_size];omega) (by rw [cat_size,e1,ByteArray.size_extract,cat_size,zerosB_size];omega) λ j hj=>?_
  rw [txt_at (by omega),Nat.zero_add,byteAt_cat,e1,byteAt_cat,ByteArray.size_extract,cat_size,zerosB_size,byteAt_ext,byteAt_ext,byteAt_z,byteAt_z,wrB]
  by_cases h2:j < off
  ·rw [if_neg (by omega),if_pos (by omega),if_pos (by omega),if_pos (by omega),Nat.zero_add]
  ·by_cases h3:j < off+t.size
   ·rw [if_pos (by omega),if_pos (by omega),if_neg (by omega)]
    congr 1;omega
   ·rw [if_neg (by omega),if_neg (by omega),if_pos (by omega)]
    congr 1;omega
 ·rename_i h1
  refine ba_eq_of (n:=off+t.size) (by rw [txt_size];omega) e1 λ j hj=>?_
  rw [txt_at (by omega),Nat.zero_add,byteAt_cat,ByteArray.size_extract,cat_size,zerosB_size,byteAt_ext,byteAt_z,wrB]
  by_cases h2:j < off
  ·rw [if_neg (by omega),if_pos (by omega),if_pos (by omega),Nat.zero_add]
  ·rw [if_pos (by omega),if_neg (by omega)]
   congr 1;omega
theorem wr_nil (s t:ByteArray) (off:Nat) (h0:t.size=0):wrT s off t=s:=by
 unfold wrT
 rw [if_pos h0]
 refine ba_eq_of (n:=s.size) (by rw [txt_size];omega) rfl λ j hj=>?_
 rw [txt_at (by omega),Nat.zero_add,wrB,if_neg (by omega)]
theorem rwrite_fn (s t:ByteArray) (off:Nat) (hs:s.size<=100000) (hn:off<=100000) (ht:t.size<=100000) (W:World):Fn 52 #[.string s,.int .i64 off,.string t] W (.string (wrT s off t)):=by
 refine ⟨?_⟩
 by_cases h0:t.size=0
 ·have he:=wr_nil s t off h0
  have hne:t.toList.isEmpty=true:=by
   have:t.data.toList=[]:=List.eq_nil_of_length_eq_zero (by rw [size_list];exact h0)
   rw [ByteArray.toList_eq,this];rfl
  rw [he]
  go_enter Tryz.func52,Tryz.ntmps52
  go_wp2_with fail
  go_ret
  exact Ret.mk rfl grown
 ·have hne:t.toList.isEmpty=false:=ne_of_size h0
  obtain ⟨M,hM⟩:∃ M,M=max s.size off:=⟨_,rfl⟩
  have hM1:s.size<=M:=by omega
  have hM2:M<=100000:=by omega
  have hM3:off<=M:=by omega
  have HM:=Lib.hid hM
  clear hM
  go_enter Tryz.func52,Tryz.ntmps52
  go_wp2_with fail
  go_loopw [0] (λ sv wr=>∃ k:Nat,s.size+k<=M/\sv=.string (s++zerosB k)/\∃ g,wr=gr W g) (λ sv _=>match sv with | .string x=>M - x.size | _=>0)
  case atStart=>exact ⟨0,by omega,by rw [cat_nil],ex_gr W⟩
  case round =>
   obtain ⟨k,hk,rfl,g,rfl⟩:=hrel
   have hz:(s++zerosB k).size=s.size+k:=by rw [cat_size,zerosB_size]
   by_cases hlt:s.size+k < off
   ·have hz2:=zerosB_snoc s k
    go_wp2_with fail
    exact ⟨⟨k+1,by omega,rfl,_,rfl⟩,by simp only [cat_size,zerosB_size];omega⟩
   ·have he:=wr_pad (s:=s) (t:=t) (off:=off) (k:=k) h0 (by omega) (by have:=HM.out;omega)
    have hz3:((s++zerosB k).extract 0 off).size=off:=by rw [ByteArray.size_extract];omega
    have He:=Lib.hid he
    clear he
    by_cases hlt2:off+t.size < s.size+k
    ·go_wp2_with fail
     go_ret
     refine Ret.mk ?_ grown
     rw [He.out,if_pos hlt2];rfl
    ·go_wp2_with fail
     go_ret
     refine Ret.mk ?_ grown
     rw [He.out,if_neg hlt2];rfl
section
variable (V:VD) (F:Nat->Nat->ByteArray) (pb:Nat) (txg:Int) (root live:Nd) (ss sl b work was:Value) (W:World) [k:CellsIn W pb (poC V txg root live ss sl b work was)] [D:IsDevs V F W]
include k D
theorem missed_at:Calls Tryz.prog 24 #[pV pb] W λ e w'=>(∃ v,e=.returned v)/\∃ g,w'=gr W g:=by
 haveI:Old pb W:=k.old
 have hle:=(devs_facts V F W).1.le
 have HX:∀ (w:World) (d:Nat),IsDevs V F w->d < V.ds.length->Fn 62 #[V.v,.int .i64 d] w (.bool true):=λ w d _ h=>hereX_fn V F w d h
 go_enter Tryz.func24,Tryz.ntmps24
 go_wp2_with fail
 go_loopw [9] (λ i wr=>∃ d:Nat,d<=V.ds.length/\i=.int .i64 d/\∃ g,wr=gr W g) (λ i _=>V.ds.length - (intOf i).toNat)
 case atStart=>exact ⟨0,Nat.zero_le _,rfl,ex_gr W⟩
 case round =>
  obtain ⟨d,hd,rfl,g,rfl⟩:=hrel
  by_cases hlt:d < V.ds.length
  ·have HX1:∀ w,[IsDevs V F w]->Fn 62 #[V.v,.int .i64 d] w (.bool true):=λ w _=>HX w d ii hlt
   go_wp2_with (first | (with_reducible refine Fn.go λ g=>?_) | ((with_reducible apply wpList_load);(·exact rfl);(·exact ii)))
   exact ⟨⟨d+1,hlt,by go_num,_,by first | exact gr_gr .. | rfl⟩,by simp [intOf];omega⟩
  ·obtain rfl:V.ds.length=d:=by omega
   go_wp2_with fail
   go_end0
   exact ⟨⟨_,rfl⟩,_,rfl⟩
theorem gone_fn:Fn 29 #[pV pb] W (.int .i64 0):=by
 refine ⟨?_⟩
 haveI:Old pb W:=k.old
 have hle:=(devs_facts V F W).1.le
 have HX:∀ (w:World) (d:Nat),IsDevs V F w->d < V.ds.length->Fn 62 #[V.v,.int .i64 d] w (.bool true):=λ w d _ h=>hereX_fn V F w d h
 go_enter Tryz.func29,Tryz.ntmps29
 go_wp2_with fail
 go_loopw [3,11] (λ v i wr=>∃ d:Nat,d<=V.ds.length/\v=.int .i64 0/\i=.int .i64 d/\∃ g,wr=gr W g) (λ _ i _=>V.ds.length - (intOf i).toNat)
 case atStart=>exact ⟨0,Nat.zero_le _,rfl,rfl,ex_gr W⟩
 case round =>
  obtain ⟨d,hd,rfl,rfl,g,rfl⟩:=hrel
  by_cases hlt:d < V.ds.length
  ·have HX1:∀ w,[IsDevs V F w]->Fn 62 #[V.v,.int .i64 d] w (.bool true):=λ w _=>HX w d ii hlt
   go_wp2_with (first | (with_reducible refine Fn.go λ g=>?_) | ((with_reducible apply wpList_load);(·exact rfl);(·exact ii)))
   exact ⟨⟨d+1,hlt,rfl,by go_num,_,by first | exact gr_gr .. | rfl⟩,by simp [intOf];omega⟩
  ·obtain rfl:V.ds.length=d:=by omega
   go_wp2_with fail
   go_ret
   exact Ret.mk rfl grown
end
theorem flushed_tq (V:VD) (F:Nat->Nat->ByteArray) (N:Nat) (pb:Nat) (txg:Int) (root live:Nd) (ss sl b work was:Value) :
  Tq 27 #[pV pb] (star [BlkP pb (poC V txg root live ss sl b work was) 82,DevsP V N F]) λ v q=>v=.bool true/\q=star [BlkP pb (poC V txg root live ss sl b work was) 82,DevsP V N F]:=by
 have FL:Tq 67 #[V.v] (DevsP V N F) λ v q=>v=.tuple #[.int .i64 0,.int .i64 0]/\q=DevsP V N F:=(vflush_tu V N F).qv
 have GO:∀ w,[CellsIn w pb (poC V txg root live ss sl b work was)]->[IsDevs V F w]->Fn 29 #[pV pb] w (.int .i64 0):=λ w _ _=>gone_fn V F pb txg root live ss sl b work was w
 refine Tq.of λ W h B0=>?_
 have B:=B0.flat
 clear B0
 simp only [List.append_nil] at B
 go_enter Tryz.func27,Tryz.ntmps27
 go_wp2_with ((with_reducible apply wpList_load);(·exact rfl);(·exact ii))
 refine (Bt.call FL).mono ?_
 rintro e w1 ⟨v,q,rfl,⟨rfl,rfl⟩,B1⟩
 clear B
 dsimp only
 go_wp2_with (with_reducible refine Fn.go λ g=>?_)
 go_ret
 (first | apply fin_a | apply fin_b)
 exact ⟨⟨rfl,rfl⟩,turns_bt (W:=W) (h:=h) (l:=[_,_]) ii λ w9 B9=>(B9.app [_,_]).fin_at 0 rfl⟩
def wrI (o:ByteArray) (vs:List Int):ByteArray:=vs.foldl (λ o i=>o++intS i) o
theorem wrI_take {o:ByteArray} {vs:List Int} {k:Nat} {i:Int} (h:vs[k]?=some i):wrI o (vs.take (k+1))=wrI o (vs.take k)++intS i:=by
 unfold wrI
 rw [List.take_add_one,h,List.foldl_append]
 rfl
theorem wrI_size (vs:List Int):∀ o:ByteArray,(wrI o vs).size<=o.size+8*vs.length:=by
 induction vs with
 | nil=>intro o;simp [wrI]
 | cons i vs ih =>
  intro o
  have h1:=ih (o++intS i)
  have h2:=intS_size i
  rw [cat_size] at h1
  show (wrI (o++intS i) vs).size<=_
  simp only [List.length_cons]
  omega
abbrev mwC (o:ByteArray):Array Value:=#[.string o,.int .i64 0]
def inV (vs:List Int):List (List Value):=vs.map λ i=>[.int .i64 i]
theorem counts_tq (b:Nat) (o:ByteArray) (ad:Option Addr) (n cap:Nat) (vs:List Int) (P:SP) (hP:∀ h,P h->∀ W,Has W h->RdS 1 ad n cap (inV vs) W) (hv:∀ i∈vs,0<=i/\i<=4611686018427387903) (hn:n<=1000) (ho:o.size<=1000000) :
  Tq 112 #[pV b,.slice ad n cap] (star [BlkP b (mwC o) 210,P]) λ _ q=>q=star [BlkP b (mwC (wrI o vs)) 210,P]:=by
 refine Tq.of λ W h B0=>?_
 have B:=B0.flat
 clear B0
 simp only [List.append_nil] at B
 have hlen:vs.length=n:=by
  obtain ⟨h0,p,i⟩:=B.mem (i:=1) rfl
  have:=(hP h0 p W i).len
  simpa [inV] using this
 go_enter Tryz.func112,Tryz.ntmps112
 go_wp2_with fail
 go_loopw [9] (λ i wr=>∃ k:Nat,k<=n/\i=.int .i64 k/\Bt W h [BlkP b (mwC (wrI o (vs.take k))) 210,P] wr) (λ i _=>n - (intOf i).toNat)
 case atStart=>exact ⟨0,Nat.zero_le _,rfl,B⟩
 case round =>
  clear B
  obtain ⟨k,hk,rfl,B⟩:=hrel
  by_cases hlt:k < n
  ·obtain ⟨x,hx⟩:∃ x,vs[k]?=some x:=⟨_,List.getElem?_eq_getElem (by omega)⟩
   obtain ⟨h0,p,hi⟩:=B.mem (i:=1) rfl
   obtain ⟨g,og,rfl,hb,hc⟩:=(hP h0 p wr hi).cells k [.int .i64 x] (by simp [inV,hx])
   have c0:=hc 0 _ rfl
   rw [Nat.add_zero,Nat.mul_one] at c0
   have hxr:=hv x (List.mem_of_getElem? hx)
   have hz1:=wrI_size (vs.take k) o
   have hz2:(vs.take k).length<=1000:=by rw [List.length_take];omega
   have hz3:=intS_size x
   have hne:(intS x).toList.isEmpty=false:=ne_of_size (by rw [intS_in hxr.1 hxr.2,leS_size];omega)
   have e:=Lib.hid (wrI_take (o:=o) hx)
   clear hx hc hP hv
   go_wp2_with (with_reducible refine Fn.go λ g=>?_)
   refine ⟨⟨k+1,hlt,by go_num,?_⟩,by simp [intOf];omega⟩
   rw [e.out]
   exact ii
  ·obtain rfl:n=k:=by omega
   rw [List.take_of_length_le (by omega)] at B
   go_wp2_with fail
   go_end0
   exact ⟨_,_,rfl,rfl,(B.app [_,_]).fin_at 0 rfl⟩
theorem wnode_tq (b:Nat) (o:ByteArray) (n:Nd) [NFit n] (ho:o.size<=1000000) :
  Tq 111 #[pV b,.agg n.cs] (BlkP b (mwC o) 210) λ _ q=>q=BlkP b (mwC (o++n.bytes)) 210:=by
 have NB:∀ w,Fn 118 #[.agg n.cs] w (.tuple #[.string n.bytes,.int .i64 0]):=λ w=>by have:=nbytes_fn n w;rw [n.err_fit] at this;exact this
 have hz:=n.bytes_size
 refine Tq.of λ W h B=>?_
 go_enter Tryz.func111,Tryz.ntmps111
 go_wp2_with (first | (with_reducible refine Fn.go λ g=>?_) | ((with_reducible apply wpList_load);(·exact rfl);(·exact ii)))
 go_end0
 exact ⟨_,_,rfl,rfl,turns_bt (W:=W) (h:=h) (l:=[_,BlkP b (mwC (o++n.bytes)) 210]) ii λ w9 B9=>B9.fin_at 1 rfl⟩
def msH (live:Nd) (n:Nat):ByteArray:=wrI (⟨#[]⟩++live.bytes) [(n:Int)]
def msS (o:ByteArray) (l:List Sn):ByteArray:=l.foldl (λ o x=>wrI o [x.id,x.txg]++x.dir.bytes) o
def msR (o:ByteArray):Nat->ByteArray
 | 0=>o
 | k+1=>wrI (msR o k) [0,0]
def msB (live:Nd) (l:List Sn) (n:Nat):ByteArray:=msR (wrI (wrI (msS (msH live l.length) l) (List.replicate 9 0)) [(n:Int)]) n
theorem msS_take {o:ByteArray} {l:List Sn} {k:Nat} {x:Sn} (h:l[k]?=some x):msS o (l.take (k+1))=wrI (msS o (l.take k)) [x.id,x.txg]++x.dir.bytes:=by
 unfold msS
 rw [List.take_add_one,h,List.foldl_append]
 rfl
theorem msS_size (l:List Sn):∀ (o:ByteArray),(∀ x∈l,NFit x.dir)->(msS o l).size<=o.size+144*l.length:=by
 induction l with
 | nil=>intro o _;simp [msS]
 | cons x l ih =>
  intro o h
  haveI:=h x (by simp)
  have h1:=ih (wrI o [x.id,x.txg]++x.dir.bytes) (λ y hy=>h y (by simp [hy]))
  have h2:=wrI_size [x.id,x.txg] o
  rw [cat_size,x.dir.bytes_size] at h1
  show (msS (wrI o [x.id,x.txg]++x.dir.bytes) l).size<=_
  simp only [List.length_cons,List.length_nil] at *
  omega
theorem msR_size (o:ByteArray):∀ n,(msR o n).size<=o.size+16*n
 | 0=>by simp [msR]
 | n+1=>by
  have h1:=msR_size o n
  have h2:=wrI_size [0,0] (msR o n)
  simp only [List.length_cons,List.length_nil] at h2
  simp only [msR]
  omega
theorem msH_size (live:Nd) [NFit live] (n:Nat):(msH live n).size<=136:=by
 have:=wrI_size [(n:Int)] (⟨#[]⟩++live.bytes)
 rw [cat_size,live.bytes_size] at this
 have e:(⟨#[]⟩:ByteArray).size=0:=rfl
 simp only [List.length_cons,List.length_nil] at this
 unfold msH
 omega
theorem msB_size (live:Nd) [NFit live] (l:List Sn) (n:Nat) (h:∀ x∈l,NFit x.dir):(msB live l n).size<=216+144*l.length+16*n:=by
 have h1:=msR_size (wrI (wrI (msS (msH live l.length) l) (List.replicate 9 0)) [(n:Int)]) n
 have h2:=wrI_size [(n:Int)] (wrI (msS (msH live l.length) l) (List.replicate 9 0))
 have h3:=wrI_size (List.replicate 9 0) (msS (msH live l.length) l)
 have h4:=msS_size l (msH live l.length) h
 have h5:=msH_size live l.length
 simp only [List.length_cons,List.length_nil,List.length_replicate] at *
 unfold msB
 omega
set_option maxRecDepth 512 in
theorem numbers_new (W:World):Calls Tryz.prog 113 #[.agg #[.int .i64 0,.int .i64 0,.int .i64 0,.int .i64 0,.int .i64 0,.int .i64 0,.int .i64 0,.int .i64 0,.int .i64 0]] W λ e w'=>∃ b,e=.returned (.slice (some ⟨b,0,none⟩) 9 9)/\New1 (RwP 3 1 b 9 (inV (List.replicate 9 0))) W w':=by
 haveI:=Bt.zero W
 go_enter Tryz.func113,Tryz.ntmps113
 go_wp2_with fail
 go_ret
 exact ⟨_,rfl,Bt.new1 (Bt.row1 ii rfl (by simp [inV]) rfl)⟩
theorem rwP_rd {t:TypeId} {b n:Nat} {L:List (List Value)} (hn:L.length=n):∀ h,RwP t 1 b n L h->∀ W,Has W h->RdS 1 (some ⟨b,0,none⟩) n n L W:=λ h p W i=>p.rd hn W
theorem mbytes_at (live:Nd) [NFit live] (sa:Option Addr) (scap:Nat) (l:List Sn) (n:Nat) (ra:Option Addr) (rcap:Nat) (hl:l.length<=4) (hn:n<=100) (hd:∀ x∈l,NFit x.dir) (hi:∀ x∈l,(0<=x.id/\x.id<=99)/\(1<=x.txg/\x.txg<=4294967295))
  (W:World) [RS:RdS 15 sa l.length scap (snC l) W] [RR:RdS 2 ra n rcap (zrC n) W] :
  Calls Tryz.prog 64 #[.agg (mC live (.slice sa l.length scap) (.slice ra n rcap))] W λ e w'=>e=.returned (.tuple #[.string (msB live l n),.int .i64 0])/\∃ g,w'=gr W g:=by
 have CT:=λ (b:Nat) (o:ByteArray) (ho:o.size<=1000000) (g n:Nat) (vs:List Int) (hl:vs.length=n) (hn:n<=1000) (hv:∀ i∈vs,0<=i/\i<=4611686018427387903)=>counts_tq b o (some ⟨g,0,none⟩) n n vs (RwP 3 1 g n (inV vs)) (rwP_rd (by simpa [inV] using hl)) hv hn ho
 haveI:=Bt.zero W
 go_enter Tryz.func64,Tryz.ntmps64
 go_wp2_with ((with_reducible apply wpList_load);(·exact rfl);(·exact ii))
 refine calls_bt (W:=W) (h:=λ _=>none) (l:=[BlkP (W.heap.size+1) (mwC ⟨#[]⟩) 210,BlkP W.heap.size (mC live (.slice sa l.length scap) (.slice ra n rcap)) 78]) ii ?_
 rintro w1 B1
 obtain ⟨bw,hbw⟩:∃ b,W.heap.size+1=b:=⟨_,rfl⟩
 rw [hbw] at B1 ⊢
 clear hbw
 refine (Bt.call (wnode_tq bw ⟨#[]⟩ live (by decide))).mono ?_
 rintro e w2 ⟨v,q,rfl,rfl,B2⟩
 clear B1
 dsimp only
 have hz0:(⟨#[]⟩++live.bytes:ByteArray).size<=1000000:=by rw [cat_size,live.bytes_size];decide
 go_wp2_with fail
 refine calls_bt (W:=W) (h:=λ _=>none) (l:=[BlkP _ #[.int .i64 l.length] 3,BlkP bw (mwC (⟨#[]⟩++live.bytes)) 210,BlkP W.heap.size (mC live (.slice sa l.length scap) (.slice ra n rcap)) 78]) ii ?_
 rintro w3 B3a
 have B3b:=Bt.row1 (z:=1) (n:=1) (L:=inV [(l.length:Int)]) B3a rfl (by simp [inV]) rfl
 have B3c:=Bt.oS (B3b) [1,0,2]
 haveI B3d:=B3c.app [_,_]
 clear B3a B3b B3c
 refine (Bt.call (CT bw (⟨#[]⟩++live.bytes) hz0 _ 1 [(l.length:Int)] rfl (by decide) (by intro i hi;simp at hi;subst hi;omega))).mono ?_
 rintro e w3' ⟨v,q,rfl,rfl,B3e⟩
 clear B3d
 dsimp only
 have B3:=Bt.oS (B3e.flat) [1,0,2]
 have B3':=B3.drop
 clear B3 B3e
 have e1:wrI (⟨#[]⟩++live.bytes) [(l.length:Int)]=msH live l.length:=rfl
 rw [e1] at B3'
 clear B2
 have HH:=Lib.hid (msH_size live l.length)
 go_wp2_with fail
 go_loopw [24] (λ i wr=>∃ k:Nat,k<=l.length/\i=.int .i64 k/\Bt W (λ _=>none) [BlkP bw (mwC (msS (msH live l.length) (l.take k))) 210,BlkP W.heap.size (mC live (.slice sa l.length scap) (.slice ra n rcap)) 78] wr) (λ i _=>l.length - (intOf i).toNat)
 case atStart=>exact ⟨0,Nat.zero_le _,rfl,B3'⟩
 case round =>
  clear B3'
  obtain ⟨k,hk,rfl,B⟩:=hrel
  by_cases hlt:k < l.length
  ·obtain ⟨x,hx⟩:∃ x,l[k]?=some x:=⟨_,List.getElem?_eq_getElem hlt⟩
   have hxm:=List.mem_of_getElem? hx
   have hxi:=hi x hxm
   haveI:=hd x hxm
   haveI:RdS 15 sa l.length scap (snC l) wr:=rdsCls RS B.gr_of
   obtain ⟨b,o,rfl,hb,hc⟩:=this.cells k x.cs (by simp [snC,hx])
   haveI:SubAt b (o+k*15) (#[.int .i64 x.id,.int .i64 x.txg,.int .i64 x.dir.size,.int .i64 x.dir.root.ag,.int .i64 x.dir.root.aa,.int .i64 x.dir.root.bg,.int .i64 x.dir.root.ba,.bool x.dir.root.two,.int .i64 x.dir.root.size,.int .i64 x.dir.root.level,.int .i64 x.dir.root.birth,.int .u64 x.dir.root.sum.a,.int .u64 x.dir.root.sum.b,.int .u64 x.dir.root.sum.c,.int .u64 x.dir.root.sum.d]) 15 wr:=⟨rfl,hb,λ j v e=>hc j v e⟩
   have e2:=Lib.hid (msS_take (o:=msH live l.length) hx)
   have hz1:(msS (msH live l.length) (l.take k)).size<=1000000:=by
    have h1:=msS_size (l.take k) (msH live l.length) (λ y hy=>hd y (List.mem_of_mem_take hy))
    have h2:=HH.out
    rw [List.length_take] at h1
    omega
   have hz3:(msS (msH live l.length) (l.take k)).size<=900000:=by
    have h1:=msS_size (l.take k) (msH live l.length) (λ y hy=>hd y (List.mem_of_mem_take hy))
    have h2:=HH.out
    rw [List.length_take] at h1
    omega
   obtain ⟨o1,ho1⟩:∃ o1,msS (msH live l.length) (l.take k)=o1:=⟨_,rfl⟩
   rw [ho1] at B e2 hz1 hz3
   clear hx hc hxm hi ho1
   go_wp2_with (first | ((with_reducible apply wpList_load);(·exact rfl);(·exact ii)) | ((with_reducible apply wpList_store);(·exact rfl);(·exact rfl);(·exact ii)))
   refine calls_bt (W:=W) (h:=λ _=>none) (l:=[BlkP _ #[.int .i64 x.id,.int .i64 x.txg] 3,BlkP _ #[.int .i64 x.id,.int .i64 x.txg,.int .i64 x.dir.size,.int .i64 x.dir.root.ag,.int .i64 x.dir.root.aa,.int .i64 x.dir.root.bg,.int .i64 x.dir.root.ba,.bool x.dir.root.two,.int .i64 x.dir.root.size,.int .i64 x.dir.root.level,.int .i64 x.dir.root.birth,.int .u64 x.dir.root.sum.a,.int .u64 x.dir.root.sum.b,.int .u64 x.dir.root.sum.c,.int .u64 x.dir.root.sum.d] 125,BlkP bw (mwC o1) 210,BlkP W.heap.size (mC live (.slice (some ⟨b,o,none⟩) l.length scap) (.slice ra n rcap)) 78]) ii ?_
   rintro w4 B4a
   have B4b:=Bt.row1 (z:=1) (n:=2) (L:=inV [x.id,x.txg]) B4a rfl (by simp [inV]) rfl
   have B4c:=Bt.oS (B4b) [2,0,1,3]
   haveI B4d:=B4c.app [_,_]
   clear B4a B4b B4c
   refine (Bt.call (CT bw o1 hz1 _ 2 [x.id,x.txg] rfl (by decide) (by intro i hi;simp at hi;rcases hi with rfl | rfl <;> omega))).mono ?_
   rintro e w4' ⟨v,q,rfl,rfl,B4e⟩
   clear B4d
   dsimp only
   have B4:=Bt.oS (B4e.flat) [1,0,2,3]
   have B4':=B4.drop
   clear B4 B4e
   clear B
   have hz2:(wrI o1 [x.id,x.txg]).size<=1000000:=by
    have h1:=wrI_size [x.id,x.txg] o1
    simp only [List.length_cons,List.length_nil] at h1
    omega
   go_wp2_with ((with_reducible apply wpList_load);(·exact rfl);(·exact ii))
   refine (Bt.call (wnode_tq bw (wrI o1 [x.id,x.txg]) x.dir hz2)).mono ?_
   rintro e w5 ⟨v,q,rfl,rfl,B5⟩
   clear B4'
   dsimp only
   go_wp2_with fail
   refine ⟨⟨k+1,hlt,by go_num,?_⟩,by simp [intOf];omega⟩
   rw [e2.out]
   have B6:=Bt.oS (B5) [1,0,2]
   exact B6.drop
  ·obtain rfl:l.length=k:=by omega
   rw [List.take_length] at B
   have hz1:(msS (msH live l.length) l).size<=1000:=by
    have h1:=msS_size l (msH live l.length) hd
    have h2:=HH.out
    omega
   clear hd hi
   go_wp2_with ((with_reducible apply wpList_load);(·exact rfl);(·exact ii))
   refine (numbers_new _).mono ?_
   rintro e w3 ⟨nb,rfl,hg,hn'⟩
   have B1:=B.join hg hn'
   clear B hg hn'
   dsimp only
   go_wp2_with fail
   obtain ⟨o2,ho2⟩:∃ o2,msS (msH live l.length) l=o2:=⟨_,rfl⟩
   rw [ho2] at B1 hz1
   have Ho2:=Lib.hid ho2
   clear ho2
   have B2:=Bt.oS (B1) [1,0,2]
   haveI B3:=B2.app [_,_]
   clear B1 B2
   refine (Bt.call (CT bw o2 (by omega) nb 9 (List.replicate 9 0) rfl (by decide) (by intro i hi;rw [(List.mem_replicate.1 hi).2];omega))).mono ?_
   rintro e w4 ⟨v,q,rfl,rfl,B4⟩
   clear B3
   dsimp only
   have B5:=Bt.oS (B4.flat) [1,0,2]
   have B6:=B5.drop
   clear B4 B5
   have hz2:(wrI o2 (List.replicate 9 0)).size<=1100:=by
    have h1:=wrI_size (List.replicate 9 0) o2
    rw [List.length_replicate] at h1
    omega
   obtain ⟨o3,ho3⟩:∃ o3,wrI o2 (List.replicate 9 0)=o3:=⟨_,rfl⟩
   rw [ho3] at B6 hz2
   have Ho3:=Lib.hid ho3
   clear ho3 hz1
   have hz2':o3.size<=1000000:=by omega
   go_wp2_with fail
   refine calls_bt (W:=W) (h:=λ _=>none) (l:=[BlkP _ #[.int .i64 n] 3,BlkP bw (mwC o3) 210,BlkP W.heap.size (mC live (.slice sa l.length scap) (.slice ra n rcap)) 78]) ii ?_
   rintro w5 B7a
   have B7b:=Bt.row1 (z:=1) (n:=1) (L:=inV [(n:Int)]) B7a rfl (by simp [inV]) rfl
   have B7c:=Bt.oS (B7b) [1,0,2]
   haveI B7d:=B7c.app [_,_]
   clear B7a B7b B7c
   refine (Bt.call (CT bw o3 hz2' _ 1 [(n:Int)] rfl (by decide) (by intro i hi;simp at hi;subst hi;omega))).mono ?_
   rintro e w5' ⟨v,q,rfl,rfl,B7e⟩
   clear B7d
   dsimp only
   have B7:=Bt.oS (B7e.flat) [1,0,2]
   have B7':=B7.drop
   clear B7 B7e
   clear B6
   have hz3:(wrI o3 [(n:Int)]).size<=1200:=by
    have h1:=wrI_size [(n:Int)] o3
    simp only [List.length_cons,List.length_nil] at h1
    omega
   obtain ⟨o4,ho4⟩:∃ o4,wrI o3 [(n:Int)]=o4:=⟨_,rfl⟩
   rw [ho4] at B7' hz3
   have Ho4:=Lib.hid ho4
   clear ho4 hz2 hz2'
   go_wp2_with fail
   go_loopw [54] (λ i wr=>∃ k:Nat,k<=n/\i=.int .i64 k/\Bt W (λ _=>none) [BlkP bw (mwC (msR o4 k)) 210,BlkP W.heap.size (mC live (.slice sa l.length scap) (.slice ra n rcap)) 78] wr) (λ i _=>n - (intOf i).toNat)
   case atStart=>exact ⟨0,Nat.zero_le _,rfl,B7'⟩
   case round =>
    clear B7'
    obtain ⟨k,hk,rfl,B⟩:=hrel
    by_cases hlt:k < n
    ·haveI:RdS 2 ra n rcap (zrC n) wr:=rdsCls RR B.gr_of
     obtain ⟨b,o,rfl,hb,hc⟩:=this.cells k [.int .i64 0,.int .i64 0] (by simp [zrC,hlt])
     haveI:SubAt b (o+k*2) (#[.int .i64 0,.int .i64 0]) 2 wr:=⟨rfl,hb,λ j v e=>hc j v e⟩
     have hz4:(msR o4 k).size<=1000000:=by have:=msR_size o4 k;omega
     clear hc
     go_wp2_with (first | ((with_reducible apply wpList_load);(·exact rfl);(·exact ii)) | ((with_reducible apply wpList_store);(·exact rfl);(·exact rfl);(·exact ii)))
     refine calls_bt (W:=W) (h:=λ _=>none) (l:=[BlkP _ #[.int .i64 0,.int .i64 0] 3,BlkP _ #[.int .i64 0,.int .i64 0] 92,BlkP bw (mwC (msR o4 k)) 210,BlkP W.heap.size (mC live (.slice sa l.length scap) (.slice (some ⟨b,o,none⟩) n rcap)) 78]) ii ?_
     rintro w6 B8a
     have B8b:=Bt.row1 (z:=1) (n:=2) (L:=inV [0,0]) B8a rfl (by simp [inV]) rfl
     have B8c:=Bt.oS (B8b) [2,0,1,3]
     haveI B8d:=B8c.app [_,_]
     clear B8a B8b B8c
     refine (Bt.call (CT bw (msR o4 k) hz4 _ 2 [0,0] rfl (by decide) (by decide))).mono ?_
     rintro e w6' ⟨v,q,rfl,rfl,B8e⟩
     clear B8d
     dsimp only
     have B8:=Bt.oS (B8e.flat) [1,0,2,3]
     have B8':=B8.drop
     clear B8 B8e
     clear B
     go_wp2_with fail
     refine ⟨⟨k+1,hlt,by go_num,?_⟩,by simp [intOf];omega⟩
     have B9:=Bt.oS (B8') [1,0,2]
     exact B9.drop
    ·obtain rfl:n=k:=by omega
     go_wp2_with fail
     go_ret2
     have e:msB live l n=msR o4 n:=by rw [<-Ho4.out,<- Ho3.out,<- Ho2.out];rfl
     rw [e]
     exact ⟨rfl,B.gr_of⟩
theorem fin_w {W w:World} {h:Hl} {l:List SP} {x:Value} {R:Value->SP->Prop} (B:Bt W h l w) (k:∀ w',Bt W h l w'->∃ q,R x q/\Turns W h q w'):∃ v q,Ending.returned x=.returned v/\R v q/\Turns W h q w:=by
 obtain ⟨q,a,b⟩:=k w B
 exact ⟨x,q,rfl,a,b⟩
theorem fin_w2 {W w:World} {h:Hl} {l:List SP} {x:Value} {R:Value->SP->Prop} (B:Bt W h l w) (k:∀ w',Bt W h l w'->∃ q,R x q/\Turns W h q w'):∃ v,Ending.returned x=.returned v/\∃ q,R v q/\Turns W h q w:=by
 obtain ⟨q,a,b⟩:=k w B
 exact ⟨x,rfl,q,a,b⟩
section
variable {V:VD} {pb txg:Nat} {root live:Nd} {l:List Sn} {K:KS} {C:Nat}
theorem object_tq (ht:txg+1<=4294967295) (hl:l.length<=4) (hlive:NFit live) (hd:∀ x∈l,NFit x.dir) (hi:∀ x∈l,(0<=x.id/\x.id<=99)/\(1<=x.txg/\x.txg<=4294967295)) (hC:70000<=C) (hC9:C<=1000000000) (t:ByteArray) (hmt:msB live l V.ds.length=t)
  (sa:Option Addr) (scap:Nat) (ra:Option Addr) (rcap:Nat) (ow:Option Addr) (bk:Nat) (sb:Slc) (N:Nat) (F:Nat->Nat->ByteArray) (ms:List MD) (es:List Nat) (ok:StOk V sb K C N F ms) :
  Tq 25 #[pV pb] (star (PoL V pb txg root live l sa scap ra rcap (some ⟨bk,0,none⟩) none ow bk sb N F ms es)) λ v q=>∃ (n':Nd) (e:Int) (K':KS) (N':Nat) (F':Nat->Nat->ByteArray) (ms':List MD) (es':List Nat),v=.tuple #[.agg n'.cs,.int .i64 e]/\(StOk V sb K' (C - 70000) N' F' ms'/\K.le K'/\(e=0->ObT K' n' (wrT ⟨#[]⟩ 0 t)))/\q=star (PoL V pb txg root live l sa scap ra rcap (some ⟨bk,0,none⟩) none ow bk sb N' F' ms' es'):=by
 refine Tq.of λ W h B0=>?_
 have B:=B0.flat
 simp only [PoL,List.cons_append,List.nil_append] at B
 clear B0
 have hdn:V.ds.length<=100:=by
  haveI:=isDevs_of (i:=4) B rfl
  exact (devs_facts V F W).1.le
 have MB:=λ (w:World) (_:RdS 15 sa l.length scap (snC l) w) (_:RdS 2 ra V.ds.length rcap (zrC V.ds.length) w)=>mbytes_at live sa scap l V.ds.length ra rcap hl hdn hd hi w
 have hms:=msB_size live l V.ds.length hd
 rw [hmt] at MB hms
 clear hmt
 have PS:=λ (w:World) (_:CellsIn w pb (poC V txg root live (.slice sa l.length scap) (.slice ra V.ds.length rcap) (pV bk) (.pointer none) (.pointer ow)))=>pstore_at V pb bk txg (txg+1) 0 rfl (by omega) root live _ _ _ _ w
 have r1:=(rd_sl B (i:=1) rfl).1
 have r2:=(rd_sl B (i:=2) rfl).1
 go_enter Tryz.func25,Tryz.ntmps25
 go_wp2_with ((with_reducible apply wpList_load);(·exact rfl);(·exact ii))
 refine (MB _ ii ii).mono ?_
 rintro e w1 ⟨rfl,g,rfl⟩
 clear MB r1 r2
 dsimp only
 go_wp2_with fail
 refine (PS _ ii).mono ?_
 rintro e w2 ⟨st,rfl,hg,hn⟩
 have B1:=Bt.join (W:=W) (h:=h) (l:=[_,BlkP pb (poC V txg root live (.slice sa l.length scap) (.slice ra V.ds.length rcap) (pV bk) (.pointer none) (.pointer ow)) 82,SlP 125 15 sa l.length scap (snC l),SlP 92 2 ra V.ds.length rcap (zrC V.ds.length),BookC bk sb V.secs ms es,DevsP V N F,GMP sb]) ii hg hn
 clear hg hn B PS
 dsimp only
 have B2:=B1.more (p:=DnP (.pointer none) C) (.inl ⟨rfl,hC9⟩)
 have B3:=Bt.oS (B2) [0,8,6,7,5,1,2,3,4]
 have B4:Bt W h (StP V st bk sb (txg+1) 0 false K C::_) w2:=(B3.app [_,_,_,_,_]).head λ h s=>⟨_,N,F,ms,es,ok,s⟩
 clear B1 B2 B3
 have AT:=as_tq (V:=V) (st:=st) (bb:=bk) (sb:=sb) (txg:=txg+1) (keep:=0) (meta_:=false) K C
 go_wp2_with fail
 refine (Bt.call AT).mono ?_
 rintro e w3 ⟨v,q,rfl,⟨st2,rfl,rfl⟩,B5⟩
 clear B4 AT
 dsimp only
 have T2:=sto_st (V:=V) (st:=st2) (bb:=bk) (sb:=sb) (txg:=txg+1) (keep:=0) (meta_:=true) (by omega) (by omega)
 have TW:=twT_tq T2 K C (m:=Nd.none) (t:=⟨#[]⟩) ⟨_,Ob.none K,rfl⟩ 0 t (by omega) hC
 clear hms T2
 go_wp2_with (with_reducible apply wpList_build0)
 refine (Bt.call TW).mono ?_
 rintro e w4 ⟨v,q,rfl,hR,B6⟩
 clear B5 TW
 dsimp only
 have hR':∃ (n':Nd) (e:Int) (K':KS),v=.tuple #[.agg n'.cs,.int .i64 e]/\q=StP V st2 bk sb (txg+1) 0 true K' (C - 70000)/\K.le K'/\(e=0->ObT K' n' (wrT ⟨#[]⟩ 0 t)):=by
  rcases hR with ⟨e,he,rfl,rfl⟩ | ⟨p,K',rfl,rfl,hK,o,h1,h2,h3⟩
  ·exact ⟨Nd.none,e,K,rfl,rfl,KS.le.refl K,λ h=>absurd h he⟩
  ·obtain rfl:o=0:=by omega
   exact ⟨p,0,K',rfl,rfl,hK,λ _=>h3⟩
 obtain ⟨n',e,K',rfl,rfl,hK,ho⟩:=hR'
 have HO:=Lib.hid ho
 clear hR ho
 go_wp2_with ((with_reducible apply wpList_store);(·exact rfl);(·exact rfl);(·exact ii))
 (refine bodyPost_ret (rc13 rfl _ _ _ _ rfl ii) rfl ?_)
 refine fin_w (W:=W) (h:=h) (l:=[StP V st2 bk sb (txg+1) 0 true K' (C - 70000),BlkP W.heap.size _ 52,BlkP pb (poC V txg root live (.slice sa l.length scap) (.slice ra V.ds.length rcap) (pV bk) (.pointer none) (.pointer ow)) 82,SlP 125 15 sa l.length scap (snC l),SlP 92 2 ra V.ds.length rcap (zrC V.ds.length)]) ii λ w9 B9=>?_
 obtain ⟨dn,N',F',ms',es',ok',B10⟩:=B9.opn
 have B11:=Bt.oS (B10) [6,7,8,4,2,3,0,1,5]
 exact ⟨_,⟨n',e,K',N',F',ms',es',rfl,⟨ok',hK,HO.out⟩,rfl⟩,(B11.app [_,_,_,_,_,_]).fin_at 0 rfl⟩
end
section
variable {ops:Array Oper} {rest:List Oper} {Q:Exit->Act->World->Prop} {a:Act} {w:World} {d:Option Tmp} {pos:String} {aft:Array Edge}
theorem wpList_appM {ts e:TypeId} {z by_:Nat} [k:ElT ts e z by_] {x y:Operand} {W1:World} {h0:Hl} {l:List SP} {kf:SP->List SP} {ad ad2:Option Addr} {n cap m c:Nat} {L ys:List (List Value)} (B:Bt W1 h0 l w) (hx:a.eval x=.slice ad n cap) (hy:a.eval y=.slice ad2 m c)
  (he:FocS l e z ad n cap L kf) (hr:RdS z ad2 m c ys w) (h0':ad2=none->c=0) (hz:∀ y∈ys,y.length=z) (h1:∀ y∈ys,∀ u∈y,u.oneCell'=true) (hn:n+m<=1000000000) (hb:by_<=1000)
  (h:∀ ad' cap' w',Bt W1 h0 (kf (SlP e z ad' (n+m) cap' (L++ys))) w'->wpList Tryz.prog ops Q rest (a.put d (.slice ad' (n+m) cap')) w') :
  wpList Tryz.prog ops Q ({ dst:=d,op:=.call { callee:=.builtin .append,args:=#[x,y],argTypes:=#[ts,ts] },type:=ts,pos:=pos,after:=aft,guard:=none }::rest) a w:=by
 obtain ⟨i,hi,hk⟩:=he.e
 obtain ⟨m',h1',j,x',s⟩:=B.t
 obtain ⟨h0,p0,s0,cc⟩:=s.focus hi
 haveI:=j.sub s0
 cases ad2 with
 | none =>
  obtain rfl:c=0:=h0' rfl
  have hm:ys=[]:=by
   cases ys with
   | nil=>rfl
   | cons y ys =>
    obtain ⟨b,o,e,_⟩:=hr.cells 0 y rfl
    cases e
  subst hm
  have hm0:m=0:=hr.len.symm
  subst hm0
  obtain ⟨ii,zr,hi',hz0,hz1,hz2,hz3⟩:=ElT.el (ts:=ts) (e:=e) (z:=z) (by_:=by_)
  have ksl:=ElT.sl (ts:=ts) (e:=e) (z:=z) (by_:=by_)
  have hown:=p0.own w
  refine wpList_append_run rfl _ _ _ _ rfl _ _ hx hy (run_append_owned_none (P:=Tryz.prog) w 0 ts _ e ii z ksl hi' _ n _ hown) ?_
  have e1:L++[]=L:=List.append_nil L
  refine h ad cap w ?_
  rw [hk,e1,Nat.add_zero]
  have:l.set i (SlP e z ad n cap L)=l:=set_self hi
  rw [this];exact B
 | some a2 =>
  obtain ⟨ad',cap',W',hr',T⟩:=slP_appN (ts:=ts) p0 w hr hz h1 hn hb
  refine wpList_append_run rfl _ _ _ _ rfl _ _ hx hy (hr' _) (h ad' cap' W' ?_)
  rw [hk]
  exact ⟨Turns.after m' x' ((T.frame j s0).mono λ h' ⟨h1,q1,q2,q3⟩=>cc _ h1 h' q1 q2 q3)⟩
end
theorem ptC_z (X:List Pt):∀ y∈ptC X,y.length=12:=by intro y hy;obtain ⟨_,_,rfl⟩:=List.mem_map.1 hy;rfl
theorem ptC_one (X:List Pt):∀ y∈ptC X,∀ u∈y,u.oneCell'=true:=by
 intro y hy u hu
 obtain ⟨p,_,rfl⟩:=List.mem_map.1 hy
 simp only [Pt.cs,List.mem_cons,List.not_mem_nil,or_false] at hu
 rcases hu with rfl | rfl | rfl | rfl | rfl | rfl | rfl | rfl | rfl | rfl | rfl | rfl <;> rfl
theorem ptC_app (X Y:List Pt):ptC X++ptC Y=ptC (X++Y):=by simp [ptC]
def HeldL (K:KS) (X:List Pt):Prop:=∀ q∈X,q.isNone=false/\∃ t,K q t
theorem HeldL.app {K:KS} {X Y:List Pt} (a:HeldL K X) (b:HeldL K Y):HeldL K (X++Y):=λ q hq=>by
 rcases List.mem_append.1 hq with h | h
 ·exact a q h
 ·exact b q h
theorem on_l {K:KS} {X Y:List Pt}:(K.on X).le (K.on (X++Y)):=KS.on_le λ q hq=>List.mem_append_left _ hq
theorem on_r {K:KS} {X Y:List Pt}:(K.on Y).le (K.on (X++Y)):=KS.on_le λ q hq=>List.mem_append_right _ hq
section
variable {st:Nat} {S:KS->Nat->SP} (T:Sto st S)
include T
theorem dall_tq (K:KS) (c:Nat) {n:Nd} {Td:Objs} (dt:DrT K n Td):Tq 129 #[stV st,.agg n.cs] (S K c) λ v q=>∃ (X:List Pt) (ad:Option Addr) (cap:Nat),v=.tuple #[.slice ad X.length cap,.int .i64 0]/\(X.length<=3000/\HeldL K X/\DrT (K.on X) n Td)/\q=star [S K c,SlP 50 12 ad X.length cap (ptC X)]:=by
 obtain ⟨D,dr,hD⟩:=dt
 obtain ⟨g,o,hg,hf⟩:=id dr
 have A0:=All_tq T K c o
 have L0:=dlist_tq T K c dr
 obtain ⟨ids,hids⟩:∃ ids,idsTo D 32=ids:=⟨_,rfl⟩
 have hlen:ids.length<=32:=by rw [<-hids];exact idsTo_len D 32
 have hmem:∀ id∈ids,id < 32/\(D id).isSome=true:=λ id hi=>by
  rw [<-hids] at hi
  simpa [idsTo] using hi
 have hall:∀ id,id < 32->(D id).isSome=true->id∈ids:=λ id h1 h2=>by
  rw [<-hids]
  simp [idsTo,h1,h2]
 rw [hids] at L0
 have hlv:=lvl_bd n.size
 have RD:=λ id hid=>dread_tq T K c dr id hid
 have Hdr:=Lib.hid dr
 have Hg:=Lib.hid hg
 have Hf:=Lib.hid hf
 have Hall:=Lib.hid hall
 have Ho:=Lib.hid o
 clear hids dr hg hf hall o
 refine Tq.of λ W h B=>?_
 go_enter Tryz.func129,Tryz.ntmps129
 go_wp2_with ((with_reducible apply wpList_load);(·exact rfl);(·exact ii))
 refine (Bt.call A0).mono ?_
 rintro e w1 ⟨v,q,rfl,⟨X0,ad0,cap0,⟨rfl,rfl⟩,hX0⟩,B1⟩
 clear B A0
 dsimp only
 have HX0:=Lib.hid hX0
 clear hX0
 have B2:=Bt.oS (B1) [1,0]
 have B3:=B2.flat
 clear B1 B2
 simp only [List.cons_append,List.nil_append] at B3
 go_wp2_with ((with_reducible apply wpList_load);(·exact rfl);(·exact ii))
 refine (Bt.call L0).mono ?_
 rintro e w2 ⟨v,q,rfl,⟨adi,capi,rfl,rfl⟩,B4⟩
 clear B3 L0
 dsimp only
 have B6:=Bt.oS (B4.flat) [3,0,1,2]
 clear B4
 go_wp2_with fail
 go_loopw [6,35] (λ ov iv wr=>∃ (k:Nat) (X:List Pt) (ad:Option Addr) (cap:Nat),k<=ids.length/\iv=.int .i64 k/\ov=.slice ad X.length cap/\(X.length<=85*(k+1)/\HeldL K X/\(K.on X0).le (K.on X)/\∀ j id m,j < k->ids[j]?=some id->D id=some m->∃ t,Td id=some t/\ObT (K.on X) m t) /\
   Bt W h [BlkP W.heap.size n.cs 52,S K c,SlP 3 1 adi ids.length capi (intC ids),SlP 50 12 ad X.length cap (ptC X)] wr)
  (λ _ iv _=>ids.length - (intOf iv).toNat)
 case atStart =>
  refine ⟨0,X0,ad0,cap0,Nat.zero_le _,rfl,rfl,⟨?_,HX0.out.2.1,KS.le.refl _,λ j id m h=>absurd h (by omega)⟩,B6⟩
  have h1:=HX0.out.1
  have h2:=cA_le (n:=(lvl n.size).toNat) (by omega)
  omega
 case round =>
  clear B6
  obtain ⟨k,X,ad,cap,hk,rfl,rfl,⟨hX1,hX2,hX3,hX4⟩,B⟩:=hrel
  by_cases hlt:k < ids.length
  ·obtain ⟨id,hid⟩:∃ id,ids[k]?=some id:=⟨_,List.getElem?_eq_getElem hlt⟩
   obtain ⟨hi32,his⟩:=hmem id (List.mem_of_getElem? hid)
   obtain ⟨m,hm⟩:∃ m,D id=some m:=Option.isSome_iff_exists.1 his
   obtain ⟨t,hTt,g',o',ht⟩:=(hD id hi32).1 m hm
   have RD1:=RD id hi32
   rw [hm] at RD1
   simp only [Option.getD_some,Option.isSome] at RD1
   have A1:=All_tq T K c o'
   have hlv':=lvl_bd m.size
   obtain ⟨b,off,rfl,hb,hc⟩:=(rd_sl B (i:=2) rfl).1.cells k [.int .i64 (id:Int)] (by simp [intC,hid])
   have c0:=hc 0 _ rfl
   rw [Nat.add_zero,Nat.mul_one] at c0
   have Hid':=Lib.hid hid
   have Hm:=Lib.hid hm
   have Ho':=Lib.hid o'
   have Ht:=Lib.hid ht
   have H2:=Lib.hid hX2
   have H3:=Lib.hid hX3
   have H4:=Lib.hid hX4
   clear hc hid hm his o' ht hX2 hX3 hX4 RD hmem hD
   go_wp2_with ((with_reducible apply wpList_load);(·exact rfl);(·exact ii))
   refine (Bt.call RD1).mono ?_
   rintro e w3 ⟨v,q,rfl,⟨rfl,rfl⟩,B1⟩
   clear B RD1
   dsimp only
   go_wp2_with (first | ((with_reducible apply wpList_load);(·exact rfl);(·exact ii)) | ((with_reducible apply wpList_store);(·exact rfl);(·exact rfl);(·exact ii)))
   refine (Bt.call A1).mono ?_
   rintro e w4 ⟨v,q,rfl,⟨Y,ad2,cap2,⟨rfl,rfl⟩,hY⟩,B2⟩
   clear B1 A1
   dsimp only
   have HY:=Lib.hid hY
   clear hY
   have B3:=Bt.oS (B2) [2,0,1,3,4]
   have B4:=B3.flat
   clear B2 B3
   simp only [List.cons_append,List.nil_append] at B4
   have hYl:Y.length<=85:=by
    have h1:=HY.out.1
    have h2:=cA_le (n:=(lvl m.size).toNat) (by omega)
    omega
   have rY:=rd_sl B4 (i:=1) rfl
   have hXY:X.length+Y.length<=1000000000:=by omega
   go_wp2_with (at_builtin;(refine wpList_appM (ts:=149) B4 rfl rfl ii rY.1 rY.2.2 (ptC_z Y) (ptC_one Y) hXY (by decide) ?_);intro adA capA wA bA)
   rw [ptC_app,<- List.length_append] at bA
   refine ⟨⟨k+1,X++Y,adA,capA,hlt,by go_num,by rw [List.length_append],⟨by rw [List.length_append];omega,H2.out.app HY.out.2.1,H3.out.trans on_l,λ j id' m' hj hid' hm'=>?_⟩,?_⟩,by simp [intOf];omega⟩
   ·rcases Nat.lt_or_ge j k with h | h
    ·obtain ⟨t2,h1,h2⟩:=H4.out j id' m' h hid' hm'
     exact ⟨_,h1,h2.mono on_l⟩
    ·obtain rfl:j=k:=by omega
     have e1:id'=id:=by have:=Hid'.out;rw [this] at hid';exact (Option.some.inj hid').symm
     subst e1
     have e2:m'=m:=by have:=Hm.out;rw [this] at hm';exact (Option.some.inj hm').symm
     subst e2
     have tr:Tr (K.on Y) (lvl m'.size).toNat m'.root g':=HY.out.2.2
     exact ⟨t,hTt,g',⟨Ho'.out.sz,tr.mono on_r,Ho'.out.z⟩,Ht.out⟩
   ·have B5:=Bt.oS (bA) [1,2,3,0,4,5]
    exact B5.drop.drop
  ·obtain rfl:ids.length=k:=by omega
   have H2:=Lib.hid hX2
   have H3:=Lib.hid hX3
   have H4:=Lib.hid hX4
   clear hX2 hX3 hX4
   go_wp2_with fail
   go_ret2
   have o:=Ho.out
   have tr:Tr (K.on X0) (lvl n.size).toNat n.root g:=HX0.out.2.2
   have dr':Dr (K.on X) n D:=⟨g,⟨o.sz,tr.mono H3.out,o.z⟩,Hg.out,Hf.out⟩
   have dt:DrT (K.on X) n Td:=⟨D,dr',λ id hid=>⟨λ m hm=>by
    obtain ⟨j,hj⟩:=List.getElem?_of_mem (Hall.out id hid (by rw [hm];rfl))
    exact H4.out j id m (List.getElem?_eq_some_iff.1 hj).1 hj hm,(hD id hid).2⟩⟩
   have B5:=Bt.oS (B) [1,3,0,2]
   exact ⟨_,_,rfl,⟨X,ad,cap,rfl,⟨by omega,H2.out,dt⟩,rfl⟩,(B5.app [_,_]).fin_at 0 rfl⟩
end
end Go.Proofs.YtlfjdjndhcmliaaGreatDoor
namespace Go.Proofs.YtlfjdjndhcmliaaGreatDoor
open Go.RowKit Go.Sort
open Go.Maps Go.ChangeMaps
open Go.WideElems (Fit rd rg pl)
theorem laidOutZ:laidOutB Tryz.prog=true:=by kernel_rfl
theorem plc_wide:(match Tryz.prog.underlying 45 with | some (.array _ _) | some (.struct _)=>true | _=>false)=true:=by rw [Tryz.underlying45]
theorem types_size:Tryz.prog.types.size=469:=by kernel_rfl
theorem plc_row:(45:TypeId) < Tryz.prog.types.size:=by rw [types_size];decide
theorem plc_kt:Tryz.prog.keyTypeAt 2 45=true:=by kernel_rfl
theorem plc_keyed:Keyed Tryz.prog 45:=Keyed.of_law (deep_law_laid laidOutZ (m:=2) (by decide) plc_row plc_kt plc_wide)
def pl2V (x:Int × Int):Value:=.agg #[.int .i64 x.1,.int .i64 x.2]
theorem plc_key {x:Int × Int} (h1:(Lit.int .i64 x.1).wf=true) (h2:(Lit.int .i64 x.2).wf=true):∃ l,keyOf Tryz.prog 45 (pl2V x)=some l:=by
 obtain ⟨a,b⟩:=x
 have hk:Tryz.prog.keyType 45=true:=by kernel_rfl
 obtain ⟨n,hn⟩:∃ n,Tryz.prog.types.size=n+1:=⟨468,types_size⟩
 have hc:Tryz.prog.cellsOf 45=2:=by kernel_rfl
 have hi:Tryz.prog.cellsOf 3=1:=by kernel_rfl
 have hf:(pl2V (a,b)).formed Tryz.prog 45=true:=by simp [pl2V,Value.formed,Tryz.underlying45,hc]
 refine ⟨.string (keyBytes [.int .i64 a,.int .i64 b]),?_⟩
 unfold keyOf
 simp only [Tryz.underlying45]
 rw [if_pos (by rw [hk,hf];rfl),hn]
 simp [Program.keyLits,Tryz.underlying45,Tryz.underlying3,hc,hi,Value.cells,pl2V,h1,h2]
def boR (v:Value):Option (DataW Value × List MemPlace):=match v with
 | .bool _=>some (.held v,[])
 | _=>none
theorem boR_inv (v:Value) (y:DataW Value × List MemPlace) (h:boR v=some y):y=(.held v,[]):=by
 unfold boR at h
 split at h
 ·cases h;rfl
 ·cases h
structure MapBD (D:DataW Value) (g:Int × Int->Bool):Prop where
 at_:∀ x l,keyOf Tryz.prog 45 (pl2V x)=some l->g x=true->∀ z,D.atKey l z=.held (.bool true)
 non:∀ x l,keyOf Tryz.prog 45 (pl2V x)=some l->g x=false->Maps.has D l=false
def MapB (C N:Nat) (g:Int × Int->Bool):SP:=λ h=>∃ es clock,h C=some (.map es clock)/\Fit Tryz.prog 45 boR es clock/\es.size<=N/\MapBD (.map ((es.toList.map (rg Tryz.prog 45 boR)).foldr DataW.insert [])) g
def wf2 (x:Int × Int):Prop:=(Lit.int .i64 x.1).wf=true/\(Lit.int .i64 x.2).wf=true
theorem look_mapB {C N:Nat} {g:Int × Int->Bool} {h:Hl} (m:MapB C N g h) (W:World) [i:Has W h] {x:Int × Int} (hx:wf2 x):(Instr.lookup 274 (.map (some C)) (pl2V x) false).run Tryz.prog W=.ok (.bool (g x)) W:=by
 obtain ⟨es,clock,hb,F,_,d⟩:=m
 obtain ⟨l,hl⟩:=plc_key hx.1 hx.2
 rcases Maps.fit_look false plc_keyed Tryz.underlying274 (z:=.bool false) (by kernel_rfl) (i.get _ _ hb) F hl with ⟨hrun,_,hat⟩ | ⟨e0,y,_,_,hrun,hy,hat,_⟩
 ·cases hg:g x with
  | false=>exact hrun
  | true =>
   have:=d.at_ x l hl hg (.nil)
   rw [hat] at this
   exact absurd this (by simp)
 ·cases hg:g x with
  | false =>
   have:=Maps.atKey_of_not_has (d.non x l hl hg) .nil
   rw [hat,boR_inv _ _ hy] at this
   cases this
  | true =>
   have:=d.at_ x l hl hg .nil
   rw [hat,boR_inv _ _ hy] at this
   have e:e0.val=.bool true:=DataW.held.inj this
   rw [<-e]
   exact hrun
def addB (g:Int × Int->Bool) (x y:Int × Int):Bool:=if y=x then true else g y
theorem plc_ne {x y:Int × Int} {l l':Lit} (h:keyOf Tryz.prog 45 (pl2V x)=some l) (h':keyOf Tryz.prog 45 (pl2V y)=some l') (hne:y≠x):l'≠l:=λ e=>by
 subst e
 have:=plc_keyed.inj h h'
 obtain ⟨a,b⟩:=x
 obtain ⟨c,d⟩:=y
 simp [pl2V] at this
 exact hne (by rw [this.1,this.2])
theorem put_mapB {C N:Nat} {g:Int × Int->Bool} {h:Hl} (m:MapB C N g h) (hN:N<=1000000) (W:World) [i:Has W h] {x:Int × Int} (hx:wf2 x) :
  ∃ W',(Instr.mapUpdate 274 (.map (some C)) (pl2V x) (.bool true)).run Tryz.prog W=.ok () W'/\Turns W h (λ h'=>MapB C (N+1) (addB g x) h'/\∀ n,n≠C->h' n=h n) W':=by
 obtain ⟨es,clock,hb,F,hs,d⟩:=m
 have hown:W.ownsMap Tryz.prog 45 boR C N _:=⟨es,clock,i.get _ _ hb,F,hs,rfl⟩
 obtain ⟨l,hl⟩:=plc_key hx.1 hx.2
 have hmap:=hown.isMap
 obtain ⟨W',hrun,hown',hg⟩:=hown.update plc_keyed Tryz.underlying274 (by unfold maxLen;omega) hl (val:=.bool true) (d:=.held (.bool true)) (ps:=[]) rfl
 obtain ⟨es',clock',hb',F',hs',e'⟩:=hown'
 refine ⟨W',hrun,turns_of_grown i hb hg hb' ⟨⟨es',clock',Hl.put_same ..,F',hs',?_⟩,λ n hn=>Hl.put_other _ _ hn⟩⟩
 rw [<-e']
 refine ⟨λ y l' hl' hy z=>?_,λ y l' hl' hy=>?_⟩
 ·by_cases hyx:y=x
  ·subst hyx
   rw [hl] at hl';cases hl'
   exact Maps.atKey_put_same hmap (plc_keyed.key hl) _ _
  ·rw [addB,if_neg hyx] at hy
   rw [Maps.atKey_put_other (plc_ne hl hl' hyx)]
   exact d.at_ y l' hl' hy z
 ·by_cases hyx:y=x
  ·rw [addB,if_pos hyx] at hy;cases hy
  ·rw [addB,if_neg hyx] at hy
   rw [Maps.has_put_other (plc_ne hl hl' hyx)]
   exact d.non y l' hl' hy
end Go.Proofs.YtlfjdjndhcmliaaGreatDoor
