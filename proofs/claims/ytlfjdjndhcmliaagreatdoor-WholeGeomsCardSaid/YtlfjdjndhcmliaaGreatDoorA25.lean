/- WholeGeoms, part 25. -/
import Derived.Test.YtlfjdjndhcmliaaGreatDoorA24
import Derived.Test.YtlfjdjndhcmliaaGreatDoorA00
import Derived.Test.YtlfjdjndhcmliaaGreatDoorA23
import Derived.LaidEqlPtr
import Derived.Test.YtlfjdjndhcmliaaGreatDoorA19
import Derived.Test.YtlfjdjndhcmliaaGreatDoorA22
set_option maxRecDepth 100000
set_option maxHeartbeats 4000000
set_option linter.all false
namespace Go.Proofs.YtlfjdjndhcmliaaGreatDoor
open Go.RowKit Go.Sort Go.ChangeShapes Go.WideShapes Go.Joins
def bytesG (s:Slc) (secs:Int):Nat->ByteArray
 | 0=>leS s.len 4++leS secs 4
 | k+1=>bytesG s secs k++(leS (s.x k) 4++leS (s.y k) 4)
@[go_sem] theorem bytesG_size (s:Slc) (secs:Int) (k:Nat):(bytesG s secs k).size=8+8*k:=by
 induction k with
 | zero=>simp [bytesG,ByteArray.size_append,leS_size]
 | succ k ih=>simp only [bytesG,ByteArray.size_append,leS_size,ih];omega
set_option maxRecDepth 512 in
theorem bytes_yes {s:Slc} {secs:Int} (h:goodG s secs) (w:World) [m:GM s w] :
  Calls Tryz.prog 123 #[.agg #[.slice s.ad s.len s.cap,.int .i64 secs]] w (Ret (.string (bytesG s secs s.len)) w):=by
 have HR:=Lib.hid (λ (w:World) [GM s w]=>right_yes h w)
 have hl:=h.2.1
 have h3:=h.2.2.1
 have h4:=h.2.2.2.1
 have HG:=Lib.hid h
 clear h
 go_enter Tryz.func123,Tryz.ntmps123
 go_wp2_with (go_at_call 13;with_reducible refine (Calls.at (HR.out _)).mono ?_;rintro e w' ⟨rfl,g,rfl⟩)
 have c1:=U32_any (s.len:Int) (by omega) (by omega)
 have c2:=U32_any secs (by omega) (by omega)
 refine wp_region_gr2 (by kernel_rfl) (by kernel_rfl) ?_
 repeat (go_big_quiet_step (first | (with_reducible exact c1.inClass _ _) | (with_reducible exact c2.inClass _ _)))
 refine wpQuiet_nil ?_
 rintro _ ⟨g2,rfl⟩
 go_wp2_with fail
 go_loopw [3,20] (λ v i wr=>∃ k:Nat,k<=s.len/\i=.int .i64 k/\v=.string (bytesG s secs k)/\∃ g':Gr,wr=gr (w.alloc (.cells #[.slice s.ad s.len s.cap,.int .i64 secs] 24)) g')
  (λ _ i _=>s.len - (intOf i).toNat)
 case atStart=>exact ⟨0,Nat.zero_le _,rfl,rfl,_,rfl⟩
 case round =>
  obtain ⟨k,hk,rfl,rfl,g',rfl⟩:=hrel
  by_cases hlt:k < s.len
  ·have hcx:=m.c0 k hlt
   have hcy:=m.c1 k hlt
   have hix:=ix_grp m hlt
   haveI hbo:=m.isOld hlt
   have hw:=wide_of HG.out hlt
   have c3:=U32_any (s.x k) (by omega) (by omega)
   have c4:=U32_any (s.y k) (by omega) (by omega)
   clear c1 c2
   have hwx:=Lib.hid hw.2.2
   have hw1:=hw.1
   have hw2:=hw.2.1
   clear hw
   go_wp2_with fail
   refine wp_region_gr (by kernel_rfl) (by kernel_rfl) ?_
   repeat (go_big_quiet_step (first | (with_reducible exact c3.inClass _ _) | (with_reducible exact c4.inClass _ _)))
   refine wpQuiet_nil ?_
   rintro _ ⟨g5,rfl⟩
   go_wp2_with fail
   go_roundw
   case rel=>exact ⟨k+1,by omega,by go_num,rfl,ex_gr_alloc _ _ _ _⟩
   case measure=>simp [intOf];omega
  ·obtain rfl:s.len=k:=by omega
   go_wp2_with fail
   go_ret
   exact Ret.mk rfl grown
instance gbytes_fn (s:Slc) (secs:Int) (W:World) [k:Geo s secs] [m:GM s W]:Fn 123 #[.agg #[.slice s.ad s.len s.cap,.int .i64 secs]] W (.string (bytesG s secs s.len)):=⟨bytes_yes k.h W⟩
abbrev ubC (txg:Int) (n:Nd):Array Value:=#[.int .i64 txg,.int .i64 n.size,.int .i64 n.root.ag,.int .i64 n.root.aa,.int .i64 n.root.bg,.int .i64 n.root.ba,.bool n.root.two,.int .i64 n.root.size,.int .i64 n.root.level,.int .i64 n.root.birth,.int .u64 n.root.sum.a,.int .u64 n.root.sum.b,.int .u64 n.root.sum.c,.int .u64 n.root.sum.d]
def magicS:ByteArray:=⟨#[112,111,108,100,101,114,48,49]⟩
def ubR (s:Slc) (secs txg:Int) (n:Nd):ByteArray:=magicS++intS txg++bs (sum4 (bytesG s secs s.len)) 4++n.bytes
def ubH (s:Slc) (secs txg:Int) (n:Nd):ByteArray:=padS (ubR s secs txg n) 224
def ubS (s:Slc) (secs txg:Int) (n:Nd):ByteArray:=ubH s secs txg n++bs (sum4 (ubH s secs txg n)) 4
section
variable {s:Slc} {secs:Int} {txg:Int} {n:Nd}
theorem ubR_size (h:1<=txg/\txg<=4294967295) [NFit n]:(ubR s secs txg n).size=176:=by
 have e:(intS txg).size=8:=by rw [intS_in (by omega) (by omega),leS_size]
 unfold ubR
 rw [cat_size,cat_size,cat_size,bs_size,n.bytes_size,e]
 rfl
theorem ubH_size (h:1<=txg/\txg<=4294967295) [NFit n]:(ubH s secs txg n).size=224:=by
 unfold ubH padS
 rw [cat_size,zerosB_size,ubR_size h]
theorem ubS_size (h:1<=txg/\txg<=4294967295) [NFit n]:(ubS s secs txg n).size=256:=by
 unfold ubS
 rw [cat_size,ubH_size h,bs_size]
end
theorem ubytes_fn (s:Slc) (secs:Int) (W:World) [k:Geo s secs] [m:GM s W] (txg:Int) (n:Nd) [NFit n] (h:1<=txg/\txg<=4294967295) :
  Fn 68 #[.agg #[.slice s.ad s.len s.cap,.int .i64 secs],.agg (ubC txg n)] W (.tuple #[.string (ubS s secs txg n),.int .i64 0]):=by
 refine ⟨?_⟩
 have NB:∀ w,Fn 118 #[.agg #[.int .i64 n.size,.int .i64 n.root.ag,.int .i64 n.root.aa,.int .i64 n.root.bg,.int .i64 n.root.ba,.bool n.root.two,.int .i64 n.root.size,.int .i64 n.root.level,.int .i64 n.root.birth,.int .u64 n.root.sum.a,.int .u64 n.root.sum.b,.int .u64 n.root.sum.c,.int .u64 n.root.sum.d]] w (.tuple #[.string n.bytes,.int .i64 0]):=λ w=>by have:=nbytes_fn n w;rw [n.err_fit] at this;exact this
 have S1:∀ w,Fn 122 #[.string (bytesG s secs s.len)] w (.agg #[.int .u64 ((sum4 (bytesG s secs s.len)).a:Int),.int .u64 ((sum4 (bytesG s secs s.len)).b:Int),.int .u64 ((sum4 (bytesG s secs s.len)).c:Int),.int .u64 ((sum4 (bytesG s secs s.len)).d:Int)]):=λ w=>⟨Sum4_any _ (by have:=k.h.2.1;rw [bytesG_size];omega) w⟩
 have S2:∀ w,Fn 122 #[.string (ubH s secs txg n)] w (.agg #[.int .u64 ((sum4 (ubH s secs txg n)).a:Int),.int .u64 ((sum4 (ubH s secs txg n)).b:Int),.int .u64 ((sum4 (ubH s secs txg n)).c:Int),.int .u64 ((sum4 (ubH s secs txg n)).d:Int)]):=λ w=>⟨Sum4_any _ (by rw [ubH_size h];omega) w⟩
 have P:∀ w,Fn 119 #[.string (⟨#[112,111,108,100,101,114,48,49]⟩++intS txg++bs (sum4 (bytesG s secs s.len)) 4++n.bytes),.int .i64 224] w (.string (ubH s secs txg n)):=λ w=>pad_any _ 224 (by omega) (by omega) (by have:=ubR_size (s:=s) (secs:=secs) (n:=n) h;unfold ubR magicS at this;omega) w
 have e1:decide (txg < 1)=false:=decide_eq_false (by omega)
 have e2:decide (4294967295 < txg)=false:=decide_eq_false (by omega)
 have z1:(intS txg).size=8:=by rw [intS_in (by omega) (by omega),leS_size]
 have z2:=bs_size (sum4 (bytesG s secs s.len)) 4
 have z3:=n.bytes_size
 have z4:=cat_size ⟨#[112,111,108,100,101,114,48,49]⟩ (intS txg)
 have z5:=cat_size (⟨#[112,111,108,100,101,114,48,49]⟩++intS txg) (bs (sum4 (bytesG s secs s.len)) 4)
 have z6:=ubH_size (s:=s) (secs:=secs) (n:=n) h
 have z7:=bs_size (sum4 (ubH s secs txg n)) 4
 have z0:(⟨#[112,111,108,100,101,114,48,49]⟩:ByteArray).size=8:=rfl
 go_enter Tryz.func68,Tryz.ntmps68
 go_wp2_with (with_reducible refine Fn.go λ g=>?_)
 (first | (with_reducible refine pl2 (.q [0,1,2,3,4,5,6,7,8,9,10,11,12] .d) ?_) | refine pl1 (.q [0,1,2,3,4,5,6,7,8,9,10,11,12] .d) ?_);simp only [Plan.run,pick,gZ,gS,gA,gN]
 (repeat go_big_quiet_step (exact qZ));refine nZ ?_
 rintro w1 ⟨g1,rfl⟩
 go_wp2_with (with_reducible refine Fn.go λ g=>?_)
 go_ret2
 exact Ret.mk rfl grown
end Go.Proofs.YtlfjdjndhcmliaaGreatDoor
namespace Go.Proofs.YtlfjdjndhcmliaaGreatDoor
open Go.RowKit Go.Sort
theorem isDevs_of {W w:World} {h:Hl} {l:List SP} {V:VD} {N:Nat} {F:Nat->Nat->ByteArray} (B:Bt W h l w) {i:Nat} (e:l[i]?=some (DevsP V N F)):IsDevs V F w:=by
 obtain ⟨h0,p,j⟩:=B.mem e
 exact ⟨N,⟨h0,p,j⟩⟩
class DevsIn (V:VD) (F:outParam (Nat->Nat->ByteArray)) (l:List SP):Prop where
 e:∃ (i N:Nat),l[i]?=some (DevsP V N F)
instance devsHead (V:VD) (F:Nat->Nat->ByteArray) (N:Nat) (l:List SP):DevsIn V F (DevsP V N F::l):=⟨0,N,rfl⟩
instance (priority:=low) devsTail (V:VD) (F:Nat->Nat->ByteArray) (p:SP) (l:List SP) [k:DevsIn V F l]:DevsIn V F (p::l):=by obtain ⟨i,N,e⟩:=k.e;exact ⟨i+1,N,e⟩
instance (priority:=low) isDevsBt (V:VD) (F:Nat->Nat->ByteArray) (w:World) (W:World) (h:Hl) (l:List SP) [B:Bt W h l w] [m:DevsIn V F l]:IsDevs V F w:=by
 obtain ⟨i,N,e⟩:=m.e
 exact isDevs_of B e
set_option maxRecDepth 512 in
theorem hereX_fn (V:VD) (F:Nat->Nat->ByteArray) (W:World) [D:IsDevs V F W] (k:Nat) (hk:k < V.ds.length):Fn 62 #[V.v,.int .i64 k] W (.bool true):=by
 refine ⟨?_⟩
 have HR:∀ W':World,[IsDevs V F W']->Fn 69 #[V.v] W' (.bool true):=λ W' _=>vright_fn V F W'
 have HH:∀ (W':World),[IsDevs V F W']->Fn 110 #[V.v,.int .i64 k] W' (.bool true):=λ W' _=>here_fn V F W' k hk
 go_enter Tryz.func62,Tryz.ntmps62
 go_wp2_with (with_reducible refine Fn.go λ g=>?_)
 go_ret
 exact Ret.mk rfl grown
set_option maxRecDepth 512 in
theorem uslot_fn (txg:Nat) (h:(txg:Int)<=4294967295) (W:World):Fn 71 #[.int .i64 txg] W (.int .i64 ((txg % 4*4:Nat):Int)):=by
 refine ⟨?_⟩
 go_enter Tryz.func71,Tryz.ntmps71
 go_wp2_with fail
 go_ret
 exact Ret.mk (by simp) grown
theorem devw_tq (V:VD) (N:Nat) (F:Nat->Nat->ByteArray) (d dd a:Nat) (hdd:V.ds[d]?=some dd) (ha:a < V.secs) (s:ByteArray) (hs:s.size=64) (hN:N < 1000000000000) :
  Tq 70 #[.pointer (some ⟨dd,0,none⟩),.int .i64 a,.string s] (DevsP V N F) λ v q=>v=.int .i64 0/\q=DevsP V (N+1) (upd2 F d a s):=by
 intro W h hw hp
 obtain ⟨ok,st⟩:=hp
 have HT:=(dwrite_tu dd V.secs N (F d) a s ha hs hN).atv (devL_get (N:=N) (F:=F) hdd [GMP V.s,RowP V.lb (ptrL V.ds),RowP V.ab (List.replicate V.ds.length (.bool false))])
 refine (HT.run (h:=h) W st).mono ?_
 rintro e w' ⟨rfl,T⟩
 exact ⟨_,_,rfl,⟨rfl,rfl⟩,T.mono λ h' p=>devs_upd ok hdd hN p⟩
def ubF (F:Nat->Nat->ByteArray) (d sl j:Nat) (t:ByteArray) (e k:Nat):ByteArray:=if sl<=k/\(e < d/\k < sl+4\/e=d/\k < sl+j) then t.extract (64*(k - sl)) (64*(k - sl)+64) else F e k
theorem ubF_0 (F:Nat->Nat->ByteArray) (sl:Nat) (t:ByteArray):ubF F 0 sl 0 t=F:=by
 funext e k
 unfold ubF
 rw [if_neg (by omega)]
theorem ubF_next (F:Nat->Nat->ByteArray) (d sl:Nat) (t:ByteArray):ubF F d sl 4 t=ubF F (d+1) sl 0 t:=by
 funext e k
 unfold ubF
 have e1:(sl<=k/\(e < d/\k < sl+4\/e=d/\k < sl+4)) ↔ (sl<=k/\(e < d+1/\k < sl+4\/e=d+1/\k < sl+0)):=by omega
 simp only [e1]
theorem ubF_put (F:Nat->Nat->ByteArray) (d sl j:Nat) (t:ByteArray):upd2 (ubF F d sl j t) d (sl+j) (t.extract (64*j) (64*j+64))=ubF F d sl (j+1) t:=by
 funext e k
 unfold upd2 updS ubF
 by_cases h1:e=d
 ·subst h1
  rw [if_pos rfl]
  by_cases h2:k=sl+j
  ·subst h2
   rw [if_pos rfl,if_pos (by omega),show sl+j - sl=j by omega]
  ·rw [if_neg h2]
   have e1:(sl<=k/\(e < e/\k < sl+4\/e=e/\k < sl+j)) ↔ (sl<=k/\(e < e/\k < sl+4\/e=e/\k < sl+(j+1))):=by omega
   exact ite_congr (propext e1) (λ _=>rfl) (λ _=>rfl)
 ·rw [if_neg h1]
  have e1:(sl<=k/\(e < d/\k < sl+4\/e=d/\k < sl+j)) ↔ (sl<=k/\(e < d/\k < sl+4\/e=d/\k < sl+(j+1))):=by omega
  exact ite_congr (propext e1) (λ _=>rfl) (λ _=>rfl)
theorem uwrite_tq (V:VD) (N:Nat) (F:Nat->Nat->ByteArray) (txg:Nat) (n:Nd) [NFit n] (h:1<=(txg:Int)/\(txg:Int)<=4294967295) (hN:N+400<=1000000000000) :
  Tq 28 #[V.v,.agg (ubC txg n)] (DevsP V N F) λ v q=>v=.tuple #[.int .i64 0,.int .i64 0]/\q=DevsP V (N+4*V.ds.length) (ubF F V.ds.length (txg % 4*4) 0 (ubS V.s V.secs txg n)):=by
 refine Tq.of λ W hh B=>?_
 haveI:IsDevs V F W:=isDevs_of (i:=0) B rfl
 obtain ⟨ok,gm,ol,oa,_⟩:=devs_facts V F W
 haveI:Geo V.s V.secs:=⟨ok.g⟩
 have hsecs:17<=(V.secs:Int):=by have:=ok.g.2.2.1;omega
 have hle:=ok.le
 have hn0:1<=V.ds.length:=by
  have h1:=sumW_lt ok.g V.s.len 0 (by have:=ok.g.1;omega) (Nat.le_refl _)
  have h2:=wide_of ok.g (k:=0) (by have:=ok.g.1;omega)
  have h3:=ok.n
  simp only [sumW] at h1
  omega
 have UB:=λ (w:World) (_:GM V.s w)=>ubytes_fn V.s V.secs w txg n h
 obtain ⟨t,ht⟩:∃ t,ubS V.s V.secs txg n=t:=⟨_,rfl⟩
 have htz:t.size=256:=by rw [<-ht];exact ubS_size h
 rw [ht] at UB ⊢
 clear ht
 have HR:∀ (F':Nat->Nat->ByteArray) (w:World),IsDevs V F' w->Fn 69 #[V.v] w (.bool true):=λ F' w _=>vright_fn V F' w
 have HX:∀ (F':Nat->Nat->ByteArray) (w:World) (k:Nat),IsDevs V F' w->k < V.ds.length->Fn 62 #[V.v,.int .i64 k] w (.bool true):=λ F' w k _ hk=>hereX_fn V F' w k hk
 have HS:=λ w=>uslot_fn txg h.2 w
 obtain ⟨sl,hsl⟩:∃ sl,txg % 4*4=sl:=⟨_,rfl⟩
 have hsl12:sl<=12:=by omega
 rw [hsl] at HS ⊢
 clear hsl
 have HSl:=Lib.hid HS
 have HR1:∀ w,[IsDevs V F w]->Fn 69 #[V.v] w (.bool true):=λ w _=>HR F w ii
 have UB1:∀ w,[GM V.s w]->_:=λ w g=>UB w g
 clear UB HS
 go_enter Tryz.func28,Tryz.ntmps28
 go_wp2_with (first | (with_reducible refine Fn.go λ g=>?_) | ((with_reducible apply wpList_load);(·exact rfl);(·exact ii)))
 go_loopw [8,29] (λ v i wr=>∃ d:Nat,d<=V.ds.length/\v=.int .i64 0/\i=.int .i64 d/\Bt W hh [BlkP (W.heap.size+1) (ubC txg n) 54,BlkP W.heap.size V.cs 31,DevsP V (N+4*d) (ubF F d sl 0 t)] wr)
  (λ _ i _=>V.ds.length - (intOf i).toNat)
 case atStart=>exact ⟨0,Nat.zero_le _,rfl,rfl,by rw [ubF_0];infer_instance⟩
 case round =>
  obtain ⟨d,hd,rfl,rfl,B1⟩:=hrel
  by_cases hlt:d < V.ds.length
  ·have hdev:IsDevs V (ubF F d sl 0 t) wr:=isDevs_of (i:=2) B1 rfl
   have HX1:∀ w,[IsDevs V (ubF F d sl 0 t) w]->Fn 62 #[V.v,.int .i64 d] w (.bool true):=λ w _=>HX _ w d ii hlt
   go_wp2_with (first | (with_reducible refine Fn.go λ g=>?_) | ((with_reducible apply wpList_load);(·exact rfl);(·exact ii)))
   go_loopw [10,35] (λ v i wr=>∃ j:Nat,j<=4/\v=.bool true/\i=.int .i64 j/\Bt W hh [BlkP (W.heap.size+1) (ubC txg n) 54,BlkP W.heap.size V.cs 31,DevsP V (N+4*d+j) (ubF F d sl j t)] wr)
    (λ _ i _=>4 - (intOf i).toNat)
   case atStart=>exact ⟨0,by omega,rfl,rfl,by infer_instance⟩
   case round =>
    clear B1 hdev
    obtain ⟨j,hj,rfl,rfl,B2⟩:=hrel
    by_cases hlj:j < 4
    ·have hdev:IsDevs V (ubF F d sl j t) wr:=isDevs_of (i:=2) B2 rfl
     obtain ⟨dd,hdd⟩:∃ dd,V.ds[d]?=some dd:=⟨_,List.getElem?_eq_getElem hlt⟩
     have hc:=((devs_facts V (ubF F d sl j t) wr).2.2.2.2 d dd hdd).2.1
     haveI:Old V.lb wr:=(devs_facts V (ubF F d sl j t) wr).2.2.1
     have P:=devw_tq V (N+4*d+j) (ubF F d sl j t) d dd (sl+j) hdd (by omega) (t.extract (64*j) (64*j+64)) (by rw [ByteArray.size_extract];omega) (by omega)
     rw [ubF_put] at P
     have HS1:=HSl.out
     rw [show ((sl+j:Nat):Int)=(sl:Int)+j by omega,show 64*j+64=(j+1)*64 by omega,Nat.mul_comm 64 j] at P
     clear hdd
     go_wp2_with fail
     (first | (with_reducible refine pl2 (.q [0,1,2,3,4,5,6,7,8,9,10,11,12,13,14,15,16,17,18] (.x [19] (.q [20,21,22] .d))) ?_) | refine pl1 (.q [0,1,2,3,4,5,6,7,8,9,10,11,12,13,14,15,16,17,18] (.x [19] (.q [20,21,22] .d))) ?_);simp only [Plan.run,pick,gZ,gS,gA,gN]
     (repeat go_big_quiet_step (exact qZ));refine nZ ?_
     rintro w3 hw3
     have B3:Bt W hh _ w3:=btCls hw3
     clear hw3 B2 hdev
     go_wp2_with fail
     refine (Bt.call P).mono ?_
     rintro e w4 ⟨v,q,rfl,⟨rfl,rfl⟩,B4⟩
     dsimp only at B4 ⊢
     go_wp2_with fail
     dsimp only [Nx]
     (repeat go_big_quiet_step (exact qZ));refine nZ ?_
     rintro w5 hw5
     have B5:Bt W hh _ w5:=btCls hw5
     clear hw5 B4 B3
     go_wp2_with fail
     have B6:Bt W hh [_,_,_] w5:=B5
     exact ⟨⟨j+1,hlj,rfl,by go_num,B6⟩,by simp [intOf];omega⟩
    ·obtain rfl:j=4:=by omega
     rw [ubF_next] at B2
     go_wp2_with fail
     exact ⟨⟨d+1,hlt,rfl,by go_num,B2⟩,by simp [intOf];omega⟩
  ·obtain rfl:V.ds.length=d:=by omega
   have hne:((0:Int) == (V.ds.length:Int))=false:=by simp;omega
   go_wp2_with fail
   go_ret2
   (first | apply fin_a | apply fin_b)
   exact ⟨⟨rfl,rfl⟩,B1.fin_at 2 rfl⟩
abbrev poC (V:VD) (txg:Int) (root live:Nd) (ss sl b work was:Value):Array Value:=#[.slice V.s.ad V.s.len V.s.cap,.int .i64 V.secs,.slice (some ⟨V.lb,0,none⟩) V.ds.length V.lc,.slice (some ⟨V.ab,0,none⟩) V.ds.length V.ac,
 .int .i64 txg,.int .i64 root.size,.int .i64 root.root.ag,.int .i64 root.root.aa,.int .i64 root.root.bg,.int .i64 root.root.ba,.bool root.root.two,.int .i64 root.root.size,.int .i64 root.root.level,.int .i64 root.root.birth,.int .u64 root.root.sum.a,.int .u64 root.root.sum.b,.int .u64 root.root.sum.c,.int .u64 root.root.sum.d,
 .int .i64 live.size,.int .i64 live.root.ag,.int .i64 live.root.aa,.int .i64 live.root.bg,.int .i64 live.root.ba,.bool live.root.two,.int .i64 live.root.size,.int .i64 live.root.level,.int .i64 live.root.birth,.int .u64 live.root.sum.a,.int .u64 live.root.sum.b,.int .u64 live.root.sum.c,.int .u64 live.root.sum.d,ss,.int .i64 0,.int .i64 0,.int .i64 0,.int .i64 0,.int .i64 0,.int .i64 0,.int .i64 0,.int .i64 0,.int .i64 0,sl,
 b,work,was,.bool false]
abbrev wkC (st:Nat) (live:Nd) (ss sl:Value):Array Value:=#[.pointer (some ⟨st,0,none⟩),.int .i64 live.size,.int .i64 live.root.ag,.int .i64 live.root.aa,.int .i64 live.root.bg,.int .i64 live.root.ba,.bool live.root.two,.int .i64 live.root.size,.int .i64 live.root.level,.int .i64 live.root.birth,.int .u64 live.root.sum.a,.int .u64 live.root.sum.b,.int .u64 live.root.sum.c,.int .u64 live.root.sum.d,ss,.int .i64 0,.int .i64 0,.int .i64 0,.int .i64 0,.int .i64 0,.int .i64 0,.int .i64 0,.int .i64 0,.int .i64 0,sl]
section
variable (V:VD) (pb:Nat) (txg:Int) (root live:Nd) (ss sl b work was:Value) (W:World) [k:CellsIn W pb (poC V txg root live ss sl b work was)]
include k
set_option maxRecDepth 512 in
theorem down_fn:Fn 20 #[.pointer (some ⟨pb,0,none⟩)] W (.bool false):=by
 refine ⟨?_⟩
 haveI:Old pb W:=k.old
 go_enter Tryz.func20,Tryz.ntmps20
 go_wp2_with fail
 go_ret
 exact Ret.mk rfl grown
set_option maxRecDepth 512 in
theorem txg_fn (tx:Int) (h:txg+1=tx) (h1:txg<=4294967295) (h0:0<=txg):Fn 26 #[.pointer (some ⟨pb,0,none⟩)] W (.int .i64 tx):=by
 refine ⟨?_⟩
 haveI:Old pb W:=k.old
 go_enter Tryz.func26,Tryz.ntmps26
 go_wp2_with fail
 go_ret
 exact Ret.mk rfl grown
end
theorem info_wk:∃ j,Tryz.prog.info? 188=some j:=by
 have h:(Tryz.prog.info? 188).map (·.size)=some 25:=by kernel_rfl
 cases e:Tryz.prog.info? 188 with
 | none=>rw [e] at h;cases h
 | some j=>exact ⟨j,rfl⟩
theorem eql_ptr (w:World) (a:Addr):(binOp .eql 80 (.pointer (some a)) (.pointer (some a))).run Tryz.prog w=.ok (.bool true) w:=by
 obtain ⟨j,hj⟩:=info_wk
 exact run_eql_ptr_same w a Tryz.underlying80 hj
theorem neq_ptr (w:World) (a:Addr):(binOp .neq 80 (.pointer (some a)) (.pointer (some a))).run Tryz.prog w=.ok (.bool false) w:=by
 obtain ⟨j,hj⟩:=info_wk
 have h:∀ d:Nat,(Op.equalIn (d+1) 80 (.pointer (some a)) (.pointer (some a))).run Tryz.prog w=.ok true w:=λ d=>by
  simp [Op.equalIn,run_underlying Tryz.underlying80,sizeOf,typeInfo,hj,run_sameAddr_same]
 simp only [binOp]
 simp [Op.equal,Op.maxDepth,h 9999]
theorem pstore_at (V:VD) (pb bb:Nat) (txg tx keep:Nat) (hx:(txg:Int)+1=tx) (h1:txg<=4294967295) (root live:Nd) (ss sl work was:Value) (W:World) [k:CellsIn W pb (poC V txg root live ss sl (.pointer (some ⟨bb,0,none⟩)) work was)] :
  Calls Tryz.prog 36 #[.pointer (some ⟨pb,0,none⟩),.int .i64 keep] W λ e w'=>∃ st,e=.returned (.pointer (some ⟨st,0,none⟩))/\New1 (BlkP st (stC V bb tx keep false (.pointer none)) 169) W w':=by
 haveI:Old pb W:=k.old
 haveI:=Bt.zero W
 go_enter Tryz.func36,Tryz.ntmps36
 go_wp2_with fail
 (first | (with_reducible refine pl2 (.q [0,1,2,3,4,5,6,7,8,9,10,11,12,13,14,15] (.g 16 (.q [17] .d))) ?_) | refine pl1 (.q [0,1,2,3,4,5,6,7,8,9,10,11,12,13,14,15] (.g 16 (.q [17] .d))) ?_);simp only [Plan.run,pick,gZ,gS,gA,gN]
 (repeat go_big_quiet_step (exact qZ));refine nZ ?_
 rintro w1 hw1
 have B1:=btCls hw1
 go_wp2_with fail
 dsimp only [Nx]
 refine ⟨clsAl hw1 _,?_⟩
 (repeat go_big_quiet_step (exact qZ));refine nZ ?_
 rintro w2 hw2
 have B2:Bt W (λ _=>none) [_] w2:=btCls hw2
 clear hw2 hw1
 go_wp2_with fail
 go_ret
 exact ⟨_,rfl,B2.new1⟩
theorem drop_nil (V:VD) (pb:Nat) (txg:Nat) (root live:Nd) (ss sl b was:Value) (W:World) [k:CellsIn W pb (poC V txg root live ss sl b (.pointer none) was)] :
  Calls Tryz.prog 21 #[.pointer (some ⟨pb,0,none⟩),.pointer none] W λ e w'=>(∃ v,e=.returned v)/\∃ g,w'=gr W g:=by
 haveI:Old pb W:=k.old
 go_enter Tryz.func21,Tryz.ntmps21
 go_wp2_with fail
 go_end0
 exact ⟨⟨_,rfl⟩,ex_gr W⟩
theorem drop_tq (V:VD) (pb wk:Nat) (txg:Nat) (root live:Nd) (ss sl:Value) (ob ow:Option Addr) :
  Tq 21 #[.pointer (some ⟨pb,0,none⟩),.pointer (some ⟨wk,0,none⟩)] (BlkP pb (poC V txg root live ss sl (.pointer ob) (.pointer (some ⟨wk,0,none⟩)) (.pointer ow)) 82) λ _ q=>q=BlkP pb (poC V txg root live ss sl (.pointer ow) (.pointer none) (.pointer ow)) 82:=by
 refine Tq.of λ W h B=>?_
 have E:=λ w=>eql_ptr w ⟨wk,0,none⟩
 go_enter Tryz.func21,Tryz.ntmps21
 go_wp2_with fail
 go_end0
 have B1:Bt W h [_] ((W.setCell ⟨pb,42,none⟩ (.pointer ow)).setCell ⟨pb,43,none⟩ (.pointer none)):=ii
 exact ⟨_,_,rfl,rfl,B1.fin_at 0 rfl⟩
abbrev pV (p:Nat):Value:=.pointer (some ⟨p,0,none⟩)
def PvOk (bk:Nat) (ob owk ow:Option Addr):Prop:=(owk=none/\ob=some ⟨bk,0,none⟩)\/∃ wk,owk=some ⟨wk,0,none⟩/\ow=some ⟨bk,0,none⟩
def PoL (V:VD) (pb txg:Nat) (root live:Nd) (l:List Sn) (sa:Option Addr) (scap:Nat) (ra:Option Addr) (rcap:Nat) (ob owk ow:Option Addr) (bk:Nat) (sb:Slc) (N:Nat) (F:Nat->Nat->ByteArray) (ms:List MD) (es:List Nat):List SP :=
 [BlkP pb (poC V txg root live (.slice sa l.length scap) (.slice ra V.ds.length rcap) (.pointer ob) (.pointer owk) (.pointer ow)) 82,SlP 125 15 sa l.length scap (snC l),SlP 92 2 ra V.ds.length rcap (zrC V.ds.length),BookC bk sb V.secs ms es,DevsP V N F,GMP sb]
def PoP (V:VD) (pb txg:Nat) (root live:Nd) (l:List Sn) (K:KS) (C:Nat):SP:=λ h=>∃ sa scap ra rcap ob owk ow bk sb N F ms es,(StOk V sb K C N F ms/\C<=1000000000)/\PvOk bk ob owk ow/\star (PoL V pb txg root live l sa scap ra rcap ob owk ow bk sb N F ms es) h
def Used (V:VD) (K:KS) (ms:List MD):Prop:=∀ p t,K p t->∀ g u,takesAt V.s p g u->usedM ms g u
def WkL (V:VD) (pb txg:Nat) (root live:Nd) (l:List Sn) (sa:Option Addr) (scap:Nat) (ra:Option Addr) (rcap:Nat) (bb wb:Nat) (sb:Slc) (ms:List MD) (es:List Nat) (wk st0 st:Nat) (mt:Bool) (live':Nd) (l':List Sn) (sa':Option Addr) (scap':Nat) (ra':Option Addr) (rcap':Nat) (K':KS) (C:Nat):List SP :=
 [BlkP pb (poC V txg root live (.slice sa l.length scap) (.slice ra V.ds.length rcap) (pV bb) (pV wk) (pV wb)) 82,SlP 125 15 sa l.length scap (snC l),SlP 92 2 ra V.ds.length rcap (zrC V.ds.length),BookC wb sb V.secs ms es,
  BlkP wk (wkC st0 live' (.slice sa' l'.length scap') (.slice ra' V.ds.length rcap')) 188,SlP 125 15 sa' l'.length scap' (snC l'),SlP 92 2 ra' V.ds.length rcap' (zrC V.ds.length),StP V st bb sb (txg+1) 40 mt K' C]
def WkP (V:VD) (pb txg:Nat) (root live:Nd) (l:List Sn) (K:KS) (wk:Nat) (fresh:Bool) (live':Nd) (l':List Sn) (K':KS) (C:Nat):SP:=λ h=>∃ sa scap ra rcap bb wb sb ms es st0 st mt sa' scap' ra' rcap',(SameS sb V.s/\Used V K ms/\C<=1000000000/\(fresh=true->st0=st/\mt=false))/\star (WkL V pb txg root live l sa scap ra rcap bb wb sb ms es wk st0 st mt live' l' sa' scap' ra' rcap' K' C) h
section
variable {V:VD} {pb txg:Nat} {root live:Nd} {l:List Sn} {K:KS} {C:Nat}
theorem Bt.po {W w:World} {h:Hl} {L:List SP} (B:Bt W h (PoP V pb txg root live l K C::L) w):∃ sa scap ra rcap ob owk ow bk sb N F ms es,(StOk V sb K C N F ms/\C<=1000000000)/\PvOk bk ob owk ow/\Bt W h (PoL V pb txg root live l sa scap ra rcap ob owk ow bk sb N F ms es++L) w:=by
 obtain ⟨sa,B⟩:=B.ex
 obtain ⟨scap,B⟩:=B.ex
 obtain ⟨ra,B⟩:=B.ex
 obtain ⟨rcap,B⟩:=B.ex
 obtain ⟨ob,B⟩:=B.ex
 obtain ⟨owk,B⟩:=B.ex
 obtain ⟨ow,B⟩:=B.ex
 obtain ⟨bk,B⟩:=B.ex
 obtain ⟨sb,B⟩:=B.ex
 obtain ⟨N,B⟩:=B.ex
 obtain ⟨F,B⟩:=B.ex
 obtain ⟨ms,B⟩:=B.ex
 obtain ⟨es,B⟩:=B.ex
 obtain ⟨e1,B⟩:=B.pure
 obtain ⟨e2,B⟩:=B.pure
 exact ⟨sa,scap,ra,rcap,ob,owk,ow,bk,sb,N,F,ms,es,e1,e2,B.flat⟩
theorem Bt.wk {W w:World} {h:Hl} {L:List SP} {wk:Nat} {fresh:Bool} {live':Nd} {l':List Sn} {K':KS} (B:Bt W h (WkP V pb txg root live l K wk fresh live' l' K' C::L) w):∃ sa scap ra rcap bb wb sb ms es st0 st mt sa' scap' ra' rcap',(SameS sb V.s/\Used V K ms/\C<=1000000000/\(fresh=true->st0=st/\mt=false))/\Bt W h (WkL V pb txg root live l sa scap ra rcap bb wb sb ms es wk st0 st mt live' l' sa' scap' ra' rcap' K' C++L) w:=by
 obtain ⟨sa,B⟩:=B.ex
 obtain ⟨scap,B⟩:=B.ex
 obtain ⟨ra,B⟩:=B.ex
 obtain ⟨rcap,B⟩:=B.ex
 obtain ⟨bb,B⟩:=B.ex
 obtain ⟨wb,B⟩:=B.ex
 obtain ⟨sb,B⟩:=B.ex
 obtain ⟨ms,B⟩:=B.ex
 obtain ⟨es,B⟩:=B.ex
 obtain ⟨st0,B⟩:=B.ex
 obtain ⟨st,B⟩:=B.ex
 obtain ⟨mt,B⟩:=B.ex
 obtain ⟨sa',B⟩:=B.ex
 obtain ⟨scap',B⟩:=B.ex
 obtain ⟨ra',B⟩:=B.ex
 obtain ⟨rcap',B⟩:=B.ex
 obtain ⟨e1,B⟩:=B.pure
 exact ⟨sa,scap,ra,rcap,bb,wb,sb,ms,es,st0,st,mt,sa',scap',ra',rcap',e1,B.flat⟩
def ordL {α:Type _} (l:List α):List Nat->List α
 | []=>[]
 | i::is=>match l[i]? with
  | some a=>a::ordL l is
  | none=>ordL l is
theorem ordL_eq {α:Type _} (l:List α):∀ is,ordL l is=is.filterMap λ i=>l[i]?
 | []=>rfl
 | i::is=>by
  unfold ordL
  rw [List.filterMap_cons,ordL_eq l is]
  cases l[i]? <;> rfl
theorem range_get {α:Type _}:∀ l:List α,(List.range l.length).filterMap (λ i=>l[i]?)=l
 | []=>rfl
 | a::l=>by
  rw [List.length_cons,List.range_succ_eq_map,List.filterMap_cons,List.filterMap_map]
  exact congrArg (List.cons a) (range_get l)
theorem Bt.ord {W w:World} {h:Hl} {l:List SP} (B:Bt W h l w) (is:List Nat) (e:is.isPerm (List.range l.length)=true):Bt W h (ordL l is) w:=by
 refine B.perm ?_
 rw [ordL_eq]
 have h1:=(List.isPerm_iff.1 e).filterMap λ i=>l[i]?
 rw [range_get] at h1
 exact h1.symm
theorem book_bk {W w:World} {h:Hl} {l:List SP} {bk:Nat} {sb:Slc} {secs:Int} {ms:List MD} {es:List Nat} (B:Bt W h l w) {i:Nat} (e:l[i]?=some (BookC bk sb secs ms es)):IsBook bk sb secs ms es w:=by
 obtain ⟨h0,p,j⟩:=B.mem e
 exact ⟨⟨h0,p,j⟩⟩
theorem rd_sl {W w:World} {h:Hl} {l:List SP} {t:TypeId} {z n cap:Nat} {ad:Option Addr} {L:List (List Value)} (B:Bt W h l w) {i:Nat} (e:l[i]?=some (SlP t z ad n cap L)):RdS z ad n cap L w/\n<=cap/\(ad=none->cap=0):=by
 obtain ⟨h0,p,j⟩:=B.mem e
 refine ⟨p.rd w,p.cap,λ h=>?_⟩
 rcases p.2.2 with ⟨_,_,c⟩ | ⟨g,e,_⟩
 ·exact c
 ·rw [h] at e;cases e
theorem drop_po {ss sl:Value} {ob owk ow:Option Addr} {bk:Nat} (pv:PvOk bk ob owk ow) :
  Tq 21 #[pV pb,.pointer owk] (BlkP pb (poC V txg root live ss sl (.pointer ob) (.pointer owk) (.pointer ow)) 82) λ _ q=>q=BlkP pb (poC V txg root live ss sl (pV bk) (.pointer none) (.pointer ow)) 82:=by
 rcases pv with ⟨rfl,rfl⟩ | ⟨wk,rfl,rfl⟩
 ·refine Tq.of λ W h B=>?_
  refine (drop_nil V pb txg root live ss sl (pV bk) (.pointer ow) W).mono ?_
  rintro e w ⟨⟨v,rfl⟩,g,rfl⟩
  exact ⟨_,_,rfl,rfl,Bt.fin⟩
 ·exact drop_tq V pb wk txg root live ss sl ob _
theorem begin_tq (tx:Nat) (hx:tx=txg+1) (ht:txg<=4294967294) (hl:l.length<=4) :
  Tq 156 #[pV pb] (PoP V pb txg root live l K C) λ v q=>∃ wk,v=.tuple #[pV wk,.int .i64 0]/\q=WkP V pb txg root live l K wk true live l K C:=by
 refine Tq.of λ W h B0=>?_
 obtain ⟨sa,scap,ra,rcap,ob,owk,ow,bk,sb,N,F,ms,es,⟨ok,hC⟩,pv,B⟩:=B0.po
 clear B0
 simp only [PoL,List.cons_append,List.nil_append] at B
 have hdn:V.ds.length<=100:=by
  haveI:=isDevs_of (i:=4) B rfl
  exact (devs_facts V F W).1.le
 have hx':(txg:Int)+1=tx:=by omega
 have DN:∀ w,[CellsIn w pb (poC V txg root live (.slice sa l.length scap) (.slice ra V.ds.length rcap) (.pointer ob) (.pointer owk) (.pointer ow))]->Fn 20 #[pV pb] w (.bool false):=λ w _=>down_fn V pb txg root live _ _ _ _ _ w
 have DP:=drop_po (V:=V) (pb:=pb) (txg:=txg) (root:=root) (live:=live) (ss:=.slice sa l.length scap) (sl:=.slice ra V.ds.length rcap) pv
 have BC:=λ (w:World) (_:IsBook bk sb V.secs ms es w)=>bcopy_at bk sb V.secs ms es w
 have PS:=λ (wb:Nat) (w:World) (_:CellsIn w pb (poC V txg root live (.slice sa l.length scap) (.slice ra V.ds.length rcap) (pV bk) (.pointer none) (pV wb)))=>pstore_at V pb bk txg tx 40 hx' (by omega) root live _ _ _ _ w
 have MC:=λ (w:World) (_:RdS 15 sa l.length scap (snC l) w) (_:RdS 2 ra V.ds.length rcap (zrC V.ds.length) w)=>mcopy_at live sa scap l w V.ds.length ra rcap hl hdn
 clear hx'
 go_enter Tryz.func156,Tryz.ntmps156
 go_wp2_with (with_reducible refine Fn.go λ g=>?_)
 refine (Bt.call DP).mono ?_
 rintro e w1 ⟨v,q,rfl,rfl,B1⟩
 dsimp only at B1 ⊢
 go_wp2_with fail
 haveI:=book_bk B1 (i:=3) rfl
 refine (BC _ ii).mono ?_
 rintro e w2 ⟨wb,ms',rfl,hal,hg,hn⟩
 have B2:=B1.join hg hn
 dsimp only
 clear B B1 hg hn
 go_wp2_with fail
 refine wp_world (W:=W) (h:=h) (l:=[BookC wb sb V.secs ms' es,BlkP pb (poC V txg root live (.slice sa l.length scap) (.slice ra V.ds.length rcap) (pV bk) (.pointer none) (pV wb)) 82,SlP 125 15 sa l.length scap (snC l),SlP 92 2 ra V.ds.length rcap (zrC V.ds.length),BookC bk sb V.secs ms es,DevsP V N F,GMP sb]) ii ?_
 clear B2
 rintro w2 B2
 (first | (with_reducible refine pl2 (.q [0,1,3,4,5,6] (.g 2 (.g 7 (.q [8] (.g 9 (.q [10,11] (.x [12] .d))))))) ?_) | refine pl1 (.q [0,1,3,4,5,6] (.g 2 (.g 7 (.q [8] (.g 9 (.q [10,11] (.x [12] .d))))))) ?_);simp only [Plan.run,pick,gZ,gS,gA,gN]
 (repeat (first | ((with_reducible apply wpQuiet_load);(·exact rfl);(·rintro _ ⟨gq,rfl⟩;exact ii);go_frame) | go_big_quiet_step (exact qZ)));refine nZ ?_
 rintro w3 hw3
 have B3:Bt W h _ w3:=btCls hw3
 go_wp2_with fail
 refine (PS wb _ ii).mono ?_
 rintro e w4 ⟨st,rfl,hg,hn⟩
 have B4:=B3.join hg hn
 dsimp only
 go_wp2_with fail
 dsimp only [Nx]
 refine ⟨clsTr hw3 hg,?_⟩
 clear hn hg hw3 B2 B3
 rintro w5 hw5
 have B5:Bt W h _ w5:=btCls hw5
 clear B4
 have r1:=rd_sl B5 (i:=3) rfl
 have r2:=rd_sl B5 (i:=4) rfl
 go_wp2_with fail
 refine (MC _ r1.1 r2.1 r1.2.2 r2.2.2).mono ?_
 rintro e w6 ⟨sa',scap',ra',rcap',rfl,hg,hn⟩
 have B6:=B5.join hg hn
 dsimp only
 clear r1 r2
 go_wp2_with fail
 dsimp only [Nx]
 refine ⟨clsTr hw5 hg,?_⟩
 clear hn hg hw5 B5
 (repeat go_big_quiet_step (exact qZ));refine nZ ?_
 rintro w7 hw7
 have B7:Bt W h _ w7:=btCls hw7
 clear B6
 go_wp2_with fail
 dsimp only [Nx]
 refine ⟨clsAl hw7 _,?_⟩
 clear hw7
 (repeat go_big_quiet_step (exact qZ));refine nZ ?_
 refine btI ?_
 intro w8 B8
 clear B7
 go_wp2_with fail
 dsimp only [Nx]
 refine btI ?_
 intro w9 B9
 clear B8
 go_wp2_with fail
 go_ret2
 (first | apply fin_a | apply fin_b)
 have B10:Bt W h [BlkP w7.heap.size (wkC st live (.slice sa' l.length scap') (.slice ra' V.ds.length rcap')) _,_,_,_,BlkP pb (poC V txg root live (.slice sa l.length scap) (.slice ra V.ds.length rcap) (pV bk) (pV w7.heap.size) (pV wb)) _,_,_,_,_,_] w9:=B9
 have B11:Bt W h [BlkP st (stC V bk tx 40 false (.pointer none)) _,DnP (.pointer none) C,DevsP V N F,GMP sb,BookC bk sb V.secs ms es,_,_,_,_,_,_] w9:=(B10.more (p:=DnP (.pointer none) C) (.inl ⟨rfl,hC⟩)).ord [2,10,8,9,7,1,0,3,4,5,6] (by kernel_rfl)
 have B12:Bt W h (StP V st bk sb tx 40 false K C::_) w9:=(B11.app [_,_,_,_,_]).head λ h s=>⟨_,N,F,ms,es,ok,s⟩
 have B13:Bt W h [SlP _ _ _ _ _ _,SlP _ _ _ _ _ _,StP V st bk sb tx 40 false K C,_,_,_,_,_] w9:=(B12.ord [1,0,2,3,4,5,6] (by kernel_rfl)).flat
 have B14:Bt W h (WkL V pb txg root live l sa scap ra rcap bk wb sb ms' es w7.heap.size st st false live l sa' scap' ra' rcap' K C++[]) w9:=by
  subst hx
  exact B13.ord [5,6,7,4,3,0,1,2] (by kernel_rfl)
 refine ⟨⟨w7.heap.size,rfl,rfl⟩,((B14.app _).head λ h s=>⟨sa,scap,ra,rcap,bk,wb,sb,ms',es,st,st,false,sa',scap',ra',rcap',⟨ok.same,λ p t hp g u hu=>?_,hC,λ _=>⟨rfl,rfl⟩⟩,s⟩).fin_at 0 rfl⟩
 exact (hal.used g u).2 (ok.kept.used p t hp g u hu)
end
theorem Bt.oS {W w:World} {h:Hl} {l l':List SP} (B:Bt W h l w) (is:List Nat) (e:is.isPerm (List.range l.length)=true:=by kernel_rfl) (q:ordL l is=l':=by (simp only [StL,PoL,WkL,ordL,List.getElem?_cons_zero,List.getElem?_cons_succ,List.cons_append,List.nil_append,List.append_nil] <;> exact rfl)):Bt W h l' w:=q ▸ B.ord is e
section
variable {V:VD} {pb txg:Nat} {root live:Nd} {l:List Sn} {K:KS} {C:Nat} {wk:Nat} {fresh:Bool} {live':Nd} {l':List Sn} {K':KS}
theorem Bt.po_shut {W w:World} {h:Hl} {L:List SP} {sa:Option Addr} {scap:Nat} {ra:Option Addr} {rcap:Nat} {ob owk ow:Option Addr} {bk:Nat} {sb:Slc} {N:Nat} {F:Nat->Nat->ByteArray} {ms:List MD} {es:List Nat} (ok:StOk V sb K C N F ms) (hC:C<=1000000000) (pv:PvOk bk ob owk ow)
  (B:Bt W h (PoL V pb txg root live l sa scap ra rcap ob owk ow bk sb N F ms es++L) w):Bt W h (PoP V pb txg root live l K C::L) w :=
 (B.app _).head λ h s=>⟨sa,scap,ra,rcap,ob,owk,ow,bk,sb,N,F,ms,es,⟨ok,hC⟩,pv,s⟩
theorem keep_tq (so:SnOk V.s V.secs l') (no:NdOk V.s V.secs live') :
  Tq 165 #[pV pb,pV wk] (WkP V pb txg root live l K wk fresh live' l' K' C) λ v q=>v=.int .i64 0/\q=PoP V pb txg root live' l' K' C:=by
 refine Tq.of λ W h B0=>?_
 obtain ⟨sa,scap,ra,rcap,bb,wb,sb,ms,es,st0,st,mt,sa',scap',ra',rcap',⟨ss,us,hC,_⟩,B⟩:=B0.wk
 clear B0
 have B2:=Bt.oS (B) [7,0,1,2,3,4,5,6]
 obtain ⟨dn,N,F,ms',es',ok,B3⟩:=B2.opn
 have B4:=Bt.oS (B3) [0,1,6,7,8,5,9,10,11,4,2,3]
 have B1:=B4.drop.drop.drop.drop.drop
 clear B B2 B3 B4
 haveI:=isDevs_of (i:=5) B1 rfl
 obtain ⟨vok,gm,_,_,_⟩:=devs_facts V F W
 haveI:Geo V.s V.secs:=⟨vok.g⟩
 have hdn:=vok.le
 have DN:∀ w,[CellsIn w pb (poC V txg root live (.slice sa l.length scap) (.slice ra V.ds.length rcap) (pV bb) (pV wk) (pV wb))]->Fn 20 #[pV pb] w (.bool false):=λ w _=>down_fn V pb txg root live _ _ _ _ _ w
 have r1:=rd_sl B1 (i:=2) rfl
 have NE:=λ w=>neq_ptr w ⟨wk,0,none⟩
 have MR:∀ w,[GM V.s w]->[RdS 15 sa' l'.length scap' (snC l') w]->[RdS 2 ra' V.ds.length rcap' (zrC V.ds.length) w]->Fn 84 #[.agg #[.slice V.s.ad V.s.len V.s.cap,.int .i64 V.secs],.agg (mC live' (.slice sa' l'.length scap') (.slice ra' V.ds.length rcap'))] w (.bool true):=λ w _ _ _=>mright_at V.s V.secs w live' sa' scap' l' V.ds.length ra' rcap' so r1.2.1 no vok.n.symm
 have MC:=λ (w:World) (_:RdS 15 sa' l'.length scap' (snC l') w) (_:RdS 2 ra' V.ds.length rcap' (zrC V.ds.length) w)=>mcopy_at live' sa' scap' l' w V.ds.length ra' rcap' so.len hdn
 clear r1
 have r1:=(rd_sl B1 (i:=2) rfl).1
 have r2:=(rd_sl B1 (i:=3) rfl).1
 go_enter Tryz.func165,Tryz.ntmps165
 go_wp2_with (with_reducible refine Fn.go λ g=>?_)
 (first | (with_reducible refine pl2 (.q [0,1,2,3,4,5,6,7,8] (.x [9] (.q [10,11] .d))) ?_) | refine pl1 (.q [0,1,2,3,4,5,6,7,8] (.x [9] (.q [10,11] .d))) ?_);simp only [Plan.run,pick,gZ,gS,gA,gN]
 (repeat (first | ((with_reducible apply wpQuiet_load);(·exact rfl);(·rintro _ ⟨gq,rfl⟩;exact ii);go_frame) | go_big_quiet_step (exact qZ)));refine nZ ?_
 rintro w1 hw1
 have B2:Bt W h _ w1:=btCls hw1
 haveI:GM V.s w1:=by obtain ⟨g,rfl⟩:=hw1;infer_instance
 haveI:RdS 15 sa' l'.length scap' (snC l') w1:=by obtain ⟨g,rfl⟩:=hw1;infer_instance
 haveI:RdS 2 ra' V.ds.length rcap' (zrC V.ds.length) w1:=by obtain ⟨g,rfl⟩:=hw1;infer_instance
 clear hw1
 go_wp2_with (with_reducible refine Fn.go λ g=>?_)
 dsimp only [Nx]
 (repeat go_big_quiet_step (exact qZ));refine nZ ?_
 rintro w2 hw2
 have B3:Bt W h _ w2:=btCls hw2
 haveI:RdS 15 sa' l'.length scap' (snC l') w2:=by obtain ⟨g,rfl⟩:=hw2;infer_instance
 haveI:RdS 2 ra' V.ds.length rcap' (zrC V.ds.length) w2:=by obtain ⟨g,rfl⟩:=hw2;infer_instance
 clear hw2 B2 B1 r1 r2
 have r1:=rd_sl B3 (i:=2) rfl
 have r2:=rd_sl B3 (i:=3) rfl
 go_wp2_with ((with_reducible apply wpList_load);(·exact rfl);(·exact ii))
 refine (MC _ ii ii r1.2.2 r2.2.2).mono ?_
 rintro e w3 ⟨sa2,scap2,ra2,rcap2,rfl,hg,hn⟩
 have B4:=B3.join hg hn
 clear hn hg r1 r2 B3
 dsimp only
 go_wp2_with ((with_reducible apply wpList_store);(·exact rfl);(·exact rfl);(·exact ii))
 go_ret
 (first | apply fin_a | apply fin_b)
 have fin:∀ w9,Bt W h [star [SlP 125 15 sa2 l'.length scap2 (snC l'),SlP 92 2 ra2 V.ds.length rcap2 (zrC V.ds.length)],BlkP pb (poC V txg root live' (.slice sa2 l'.length scap2) (.slice ra2 V.ds.length rcap2) (pV bb) (.pointer none) (pV wb)) 82,BlkP wk (wkC st0 live' (.slice sa' l'.length scap') (.slice ra' V.ds.length rcap')) 188,SlP 125 15 sa' l'.length scap' (snC l'),SlP 92 2 ra' V.ds.length rcap' (zrC V.ds.length),BookC bb sb V.secs ms' es',DevsP V N F,GMP sb] w9->Turns W h (PoP V pb txg root live' l' K' C) w9:=λ w9 B9=>by
  have B10:=Bt.oS (B9.flat) [2,0,1,6,7,8,3,4,5]
  exact (Bt.po_shut (sa:=sa2) (scap:=scap2) (ra:=ra2) (rcap:=rcap2) (ob:=some ⟨bb,0,none⟩) (owk:=none) (ow:=some ⟨wb,0,none⟩) (bk:=bb) (es:=es') ok hC (.inl ⟨rfl,rfl⟩) B10).fin_at 0 rfl
 exact ⟨⟨rfl,rfl⟩,fin _ ii⟩
theorem drop_wk (hK:K.le K') :
  Tq 21 #[pV pb,pV wk] (WkP V pb txg root live l K wk fresh live' l' K' C) λ _ q=>q=PoP V pb txg root live l K C:=by
 refine Tq.of λ W h B0=>?_
 obtain ⟨sa,scap,ra,rcap,bb,wb,sb,ms,es,st0,st,mt,sa',scap',ra',rcap',⟨ss,us,hC,_⟩,B⟩:=B0.wk
 clear B0
 have B2:=Bt.oS (B) [7,0,1,2,3,4,5,6]
 obtain ⟨dn,N,F,ms',es',ok,B3⟩:=B2.opn
 have B1:=Bt.oS (B3) [5,6,7,8,9,10,11,0,1,2,3,4]
 clear B B2 B3
 have P:=drop_tq V pb wk txg root live (.slice sa l.length scap) (.slice ra V.ds.length rcap) (some ⟨bb,0,none⟩) (some ⟨wb,0,none⟩)
 refine (Bt.call P).mono ?_
 rintro e w4 ⟨v,q,rfl,rfl,B4⟩
 have B5:=Bt.oS (B4) [0,1,2,3,9,10,4,5,6,7,8,11]
 exact ⟨_,_,rfl,rfl,(Bt.po_shut (sa:=sa) (scap:=scap) (ra:=ra) (rcap:=rcap) (ob:=some ⟨wb,0,none⟩) (owk:=none) (ow:=some ⟨wb,0,none⟩) (bk:=wb) (es:=es) ⟨ss,⟨λ p t hp=>ok.kept.held p t (hK p t hp),us,λ p q t t' hp hq=>ok.kept.uni p q t t' (hK p t hp) (hK q t' hq)⟩,ok.bd⟩ hC (.inl ⟨rfl,rfl⟩) B5).fin_at 0 rfl⟩
end
structure SnD (K:KS) (txg:Nat) (l:List Sn):Prop where
 len:l.length<=4
 id:∀ x∈l,0<=x.id/\x.id<=99
 txg:∀ x∈l,1<=x.txg/\x.txg<=(txg:Int)+1
 dir:∀ x∈l,∃ g,Ob K x.dir g
 up:∀ (k:Nat) (x y:Sn),l[k]?=some x->l[k+1]?=some y->x.txg<=y.txg
 ne:∀ (j k:Nat) (x y:Sn),l[j]?=some x->l[k]?=some y->j < k->x.id≠y.id
theorem SnD.mono {K K':KS} {txg txg':Nat} {l:List Sn} (s:SnD K txg l) (h:K.le K') (ht:txg<=txg'):SnD K' txg' l :=
 ⟨s.len,s.id,λ x hx=>by have:=s.txg x hx;omega,λ x hx=>by obtain ⟨g,o⟩:=s.dir x hx;exact ⟨g,o.mono h⟩,s.up,s.ne⟩
theorem ndok_of {s:Slc} {secs:Int} {K:KS} {n:Nd} {g:Nat->UInt8} (hK:∀ p t,K p t->PtOk s secs p) (o:Ob K n g):NdOk s secs n:=by
 refine ⟨o.sz,?_⟩
 rcases o.tr.lv with h | ⟨h1,h2,t,h3⟩
 ·exact .inl (by rw [h];exact Pt.none_isNone)
 ·refine .inr ⟨h1,hK _ t h3,?_⟩
  rw [h2]
  have:=lvl_bd n.size
  omega
theorem SnD.ok {s:Slc} {secs:Int} {K:KS} {txg:Nat} {l:List Sn} (d:SnD K txg l) (hK:∀ p t,K p t->PtOk s secs p) (ht:txg+1<=4294967295):SnOk s secs l :=
 ⟨d.len,d.id,λ x hx=>by have:=d.txg x hx;omega,λ x hx=>by obtain ⟨g,o⟩:=d.dir x hx;exact ndok_of hK o,d.up,d.ne⟩
section
variable {V:VD} {pb txg:Nat} {root live:Nd} {l:List Sn} {K:KS} {C:Nat} {wk:Nat} {fresh:Bool} {live':Nd} {l':List Sn} {K':KS}
theorem WkP.ptok {h:Hl} (s:WkP V pb txg root live l K wk fresh live' l' K' C h):∀ p t,K' p t->PtOk V.s V.secs p:=by
 obtain ⟨sa,scap,ra,rcap,bb,wb,sb,ms,es,st0,st,mt,sa',scap',ra',rcap',_,s⟩:=s
 obtain ⟨h1,⟨dn,N,F,ms',es',ok,_⟩,_⟩:=s.get (i:=7) rfl
 exact λ p t hp=>(ok.kept.held p t hp).ok
theorem keep2_tq (ho:∃ g,Ob K' live' g) (sn:SnD K' txg l') (ht:txg+1<=4294967295) :
  Tq 165 #[pV pb,pV wk] (WkP V pb txg root live l K wk fresh live' l' K' C) λ v q=>v=.int .i64 0/\q=PoP V pb txg root live' l' K' C:=λ W h i s=>by
 obtain ⟨g,o⟩:=ho
 exact keep_tq (sn.ok s.ptok ht) (ndok_of s.ptok o) W h i s
theorem PoP.cells {h:Hl} (s:PoP V pb txg root live l K C h) (W:World) [Has W h]:∃ ss sl b work was,CellsIn W pb (poC V txg root live ss sl b work was):=by
 obtain ⟨sa,scap,ra,rcap,ob,owk,ow,bk,sb,N,F,ms,es,_,_,s⟩:=s
 obtain ⟨h1,p,s1⟩:=s.get (i:=0) rfl
 exact ⟨_,_,_,_,_,⟨_,(Has.get _ _ (s1 _ _ p))⟩⟩
theorem down_po {h:Hl} (s:PoP V pb txg root live l K C h) (W:World) [Has W h]:Fn 20 #[pV pb] W (.bool false):=by
 obtain ⟨ss,sl,b,work,was,_⟩:=s.cells W
 exact down_fn V pb txg root live ss sl b work was W
def mayE (id:Int):Int:=if 0<=id/\id < 32 then 0 else 1
set_option maxRecDepth 512 in
theorem omay_fn (id:Int) (W:World) (p:In (PoP V pb txg root live l K C) W):Fn 98 #[pV pb,.int .i64 id] W (.int .i64 (mayE id)):=by
 refine ⟨?_⟩
 obtain ⟨h,s,hw⟩:=p.ex
 have DN:∀ w,[Has w h]->Fn 20 #[pV pb] w (.bool false):=λ w _=>down_po s w
 unfold mayE
 by_cases h0:id < 0
 ·rw [if_neg (by omega)]
  go_enter Tryz.func98,Tryz.ntmps98
  go_wp2_with (with_reducible refine Fn.go λ g=>?_)
  go_ret
  exact Ret.mk rfl grown
 ·by_cases h1:id < 32
  ·rw [if_pos (by omega)]
   go_enter Tryz.func98,Tryz.ntmps98
   go_wp2_with (with_reducible refine Fn.go λ g=>?_)
   go_ret
   exact Ret.mk rfl grown
  ·rw [if_neg (by omega)]
   go_enter Tryz.func98,Tryz.ntmps98
   go_wp2_with (with_reducible refine Fn.go λ g=>?_)
   go_ret
   exact Ret.mk rfl grown
def ChR (V:VD) (pb txg:Nat) (root live:Nd) (l:List Sn) (K:KS) (C:Nat) (X:SP) (P:Nd->List Sn->KS->Prop) (v:Value) (q:SP):Prop :=
 (∃ e:Int,e≠0/\v=.int .i64 e/\q=star [PoP V pb txg root live l K C,X])\/∃ live' l' K',v=.int .i64 0/\K.le K'/\P live' l' K'/\q=star [PoP V pb txg root live' l' K' C,X]
def ActR (V:VD) (pb txg:Nat) (root live:Nd) (l:List Sn) (K:KS) (wk C:Nat) (X:SP) (P:Nd->List Sn->KS->Prop) (v:Value) (q:SP):Prop :=
 (∃ (e:Int) (live':Nd) (l':List Sn) (K':KS),e≠0/\v=.int .i64 e/\K.le K'/\q=star [WkP V pb txg root live l K wk false live' l' K' C,X]) \/
 ∃ live' l' K',v=.int .i64 0/\K.le K'/\((∃ g,Ob K' live' g)/\SnD K' txg l')/\P live' l' K'/\q=star [WkP V pb txg root live l K wk false live' l' K' C,X]
theorem changed_tq (ht:txg+1<=4294967295) (hl:l.length<=4) {C':Nat} {X:SP} {P:Nd->List Sn->KS->Prop} (fid:FuncId) (qf:goFn Tryz.prog fid=true) (caps:Array Value)
  (A:∀ wk,Tq fid (#[pV wk]++caps) (star [WkP V pb txg root live l K wk true live l K C,X]) (ActR V pb txg root live l K wk C' X P)) :
  Tq 99 #[pV pb,.func (.func fid) #[] caps] (star [PoP V pb txg root live l K C,X]) (ChR V pb txg root live l K C' X P):=by
 refine Tq.of λ W h B0=>?_
 have B:=B0.flat
 clear B0
 simp only [List.append_nil] at B
 have HC:=λ args w=>run_callGo (P:=Tryz.prog) qf args w
 have BG:=begin_tq (V:=V) (pb:=pb) (root:=root) (live:=live) (K:=K) (C:=C) (txg+1) rfl (by omega) hl
 go_enter Tryz.func99,Tryz.ntmps99
 go_wp2_with fail
 refine (Bt.call BG).mono ?_
 rintro e w1 ⟨v,q,rfl,⟨wk,rfl,rfl⟩,B1⟩
 clear B BG
 dsimp only
 go_wp2_with fail
 haveI B2:Bt W h [star [WkP V pb txg root live l K wk true live l K C,X]] w1:=B1.app [_,_]
 refine (Bt.call (A wk)).mono ?_
 rintro e w2 ⟨v,q,rfl,hR,B3⟩
 clear B1 B2 A
 dsimp only
 rcases hR with ⟨e,live',l',K',he,rfl,hK,rfl⟩ | ⟨live',l',K',rfl,hK,⟨ho,sn⟩,hP,rfl⟩
 ·have B4:Bt W h [_,_] w2:=B3.flat
  clear B3
  have DW:=drop_wk (V:=V) (pb:=pb) (txg:=txg) (root:=root) (live:=live) (l:=l) (C:=C') (wk:=wk) (fresh:=false) (live':=live') (l':=l') hK
  go_wp2_with fail
  refine (Bt.call DW).mono ?_
  rintro e w3 ⟨v,q,rfl,rfl,B5⟩
  dsimp only
  go_wp2_with fail
  go_ret
  (first | apply fin_a | apply fin_b)
  exact ⟨.inl ⟨_,he,rfl,rfl⟩,(B5.app [_,_]).fin_at 0 rfl⟩
 ·have B4:Bt W h [_,_] w2:=B3.flat
  clear B3
  have KP:=keep2_tq (V:=V) (pb:=pb) (root:=root) (live:=live) (l:=l) (K:=K) (C:=C') (wk:=wk) (fresh:=false) ho sn ht
  go_wp2_with fail
  refine (Bt.call KP).mono ?_
  rintro e w3 ⟨v,q,rfl,⟨rfl,rfl⟩,B5⟩
  dsimp only
  go_wp2_with fail
  go_ret
  (first | apply fin_a | apply fin_b)
  exact ⟨.inr ⟨live',l',K',rfl,hK,hP,rfl⟩,(B5.app [_,_]).fin_at 0 rfl⟩
end
theorem cutT_of {g:Nat->UInt8} {n:Nd} {m:Nat} {t:ByteArray} {g0:Nat->UInt8} (hz:n.size=m) (ht:byteAt t=g0) (hg:g=cutB g0 m):cutT t m=txt g 0 n.size.toNat:=by
 rw [hz,hg,Int.toNat_natCast]
 refine ba_eq_of (n:=m) (txt_size ..) (txt_size ..) λ j hj=>?_
 rw [cutT,txt_at hj,txt_at hj,ht,cutB,if_pos (by omega)]
theorem wrT_of {n:Nd} {z off:Nat} {t s:ByteArray} {g0:Nat->UInt8} (hz:n.size=(max z (off+s.size):Nat)) (h0:s.size≠0) (htz:t.size=z) (ht:byteAt t=g0):wrT t off s=txt (wrB g0 off s) 0 n.size.toNat:=by
 unfold wrT
 rw [hz,Int.toNat_natCast,if_neg h0,htz,ht]
theorem wrT_nil {t s:ByteArray} {off:Nat} (h0:s.size=0):wrT t off s=t:=by
 unfold wrT
 rw [if_pos h0]
 refine ba_eq_of (n:=t.size) (by rw [txt_size];omega) rfl λ j hj=>?_
 rw [txt_at (by omega),Nat.zero_add,wrB,if_neg (by omega)]
section
variable {st:Nat} {S:KS->Nat->SP} (T:Sto st S)
include T
theorem nfit_of {K:KS} {c:Nat} {h:Hl} (hS:S K c h) {n:Nd} {g:Nat->UInt8} (o:Ob K n g):NFit n:=by
 refine ⟨o.sz.1,by have:=o.sz.2;omega,?_⟩
 rcases o.tr.lv with h1 | ⟨_,_,t,h3⟩
 ·rw [h1];exact ⟨by kernel_rfl,zero4_ok⟩
 ·exact (T.fit _ _ _ _ _ hS h3).h
theorem twT_tq (K:KS) (c:Nat) {m:Nd} {t:ByteArray} (ot:ObT K m t) (off:Int) (s:ByteArray) (hs:s.size<=16384) (hc:70000<=c) :
  Tq 65 #[stV st,.agg m.cs,.int .i64 off,.string s] (S K c) (RN S K (c - 70000) λ n' K'=>∃ o:Nat,off=o/\o+s.size<=16384/\ObT K' n' (wrT t o s)):=by
 obtain ⟨g,o,ht⟩:=ot
 have hb:=ob_at o
 rw [<-ht] at hb
 obtain ⟨z0,z1⟩:=o.sz
 obtain ⟨z,r⟩:=m
 obtain ⟨z,rfl⟩:=Int.eq_ofNat_of_zero_le z0
 have htz:t.size=z:=by rw [ht,txt_size];simp
 by_cases h:0<=off/\off+s.size<=16384
 ·obtain ⟨h1,h2⟩:=h
  obtain ⟨o',rfl⟩:=Int.eq_ofNat_of_zero_le h1
  by_cases h0:s.size=0
  ·have hne:s.toList.isEmpty=true:=by
    have:s.data.toList=[]:=List.eq_nil_of_length_eq_zero (by rw [size_list];exact h0)
    rw [ByteArray.toList_eq,this];rfl
   have F:RN S K (c - 70000) (λ n' K'=>∃ o:Nat,(o':Int)=o/\o+s.size<=16384/\ObT K' n' (wrT t o s)) (.tuple #[.agg (Nd.mk z r).cs,.int .i64 0]) (S K (c - 70000)):=.inr ⟨_,K,rfl,rfl,KS.le.refl K,o',rfl,by omega,by rw [wrT_nil h0];exact ⟨g,o,ht⟩⟩
   have HF:=Lib.hid F
   refine Tq.of λ W h B=>?_
   have h3:¬ (16384 - (o':Int) < s.size):=by omega
   clear F ht hb htz o h0
   go_enter Tryz.func65,Tryz.ntmps65
   go_wp2_with ((with_reducible apply wpList_load);(·exact rfl);(·exact ii))
   (refine bodyPost_ret (rc13 rfl _ _ _ _ rfl ii) rfl ?_)
   (first | apply fin_a | apply fin_b)
   exact ⟨HF.out,(Bt.fin (p:=S K c)).mono λ h q=>T.less _ _ _ (by omega) h q⟩
  ·refine (twrite_tq T K c o o' s h0 (by omega) hc).mono λ v q hq=>⟨q,?_,λ _ h=>h⟩
   rcases hq with ⟨e,he,h3,h4⟩ | ⟨p,K',h3,h4,h5,h6,h7⟩
   ·exact .inl ⟨e,he,h3,h4⟩
   ·exact .inr ⟨p,K',h3,h4,h5,o',rfl,by omega,_,h7,wrT_of h6 h0 htz hb⟩
 ·have F:RN S K (c - 70000) (λ n' K'=>∃ o:Nat,off=o/\o+s.size<=16384/\ObT K' n' (wrT t o s)) (.tuple #[.agg Nd.none.cs,.int .i64 1]) (S K (c - 70000)):=.inl ⟨1,by decide,rfl,rfl⟩
  have HF:=Lib.hid F
  refine Tq.of λ W h B=>?_
  clear F ht hb htz o
  by_cases h1:off < 0
  ·go_enter Tryz.func65,Tryz.ntmps65
   go_wp2_with (with_reducible apply wpList_build0)
   (refine bodyPost_ret (rc13 rfl _ _ _ _ rfl ii) rfl ?_)
   (first | apply fin_a | apply fin_b)
   exact ⟨HF.out,(Bt.fin (p:=S K c)).mono λ h q=>T.less _ _ _ (by omega) h q⟩
  ·by_cases h2:16384 < off
   ·go_enter Tryz.func65,Tryz.ntmps65
    go_wp2_with (with_reducible apply wpList_build0)
    (refine bodyPost_ret (rc13 rfl _ _ _ _ rfl ii) rfl ?_)
    (first | apply fin_a | apply fin_b)
    exact ⟨HF.out,(Bt.fin (p:=S K c)).mono λ h q=>T.less _ _ _ (by omega) h q⟩
   ·have h3:16384 - off < s.size:=by omega
    go_enter Tryz.func65,Tryz.ntmps65
    go_wp2_with (with_reducible apply wpList_build0)
    (refine bodyPost_ret (rc13 rfl _ _ _ _ rfl ii) rfl ?_)
    (first | apply fin_a | apply fin_b)
    exact ⟨HF.out,(Bt.fin (p:=S K c)).mono λ h q=>T.less _ _ _ (by omega) h q⟩
theorem trT_tq (K:KS) (c:Nat) {m:Nd} {t:ByteArray} (ot:ObT K m t) (size:Int) (hc:30<=c) :
  Tq 97 #[stV st,.agg m.cs,.int .i64 size] (S K c) (RN S K (c - 30) λ n' K'=>∃ o:Nat,size=o/\o<=16384/\ObT K' n' (cutT t o)):=by
 obtain ⟨g,o,ht⟩:=ot
 have hb:=ob_at o
 rw [<-ht] at hb
 obtain ⟨z0,z1⟩:=o.sz
 obtain ⟨z,r⟩:=m
 obtain ⟨z,rfl⟩:=Int.eq_ofNat_of_zero_le z0
 by_cases h:0<=size/\size<=16384
 ·obtain ⟨h1,h2⟩:=h
  obtain ⟨o',rfl⟩:=Int.eq_ofNat_of_zero_le h1
  refine (truncate_tq T K c o o' (by omega) hc).mono λ v q hq=>⟨q,?_,λ _ h=>h⟩
  rcases hq with ⟨e,he,h3,h4⟩ | ⟨p,K',h3,h4,h5,h6,h7⟩
  ·exact .inl ⟨e,he,h3,h4⟩
  ·exact .inr ⟨p,K',h3,h4,h5,o',rfl,by omega,_,h7,cutT_of h6 hb rfl⟩
 ·have F:RN S K (c - 30) (λ n' K'=>∃ o:Nat,size=o/\o<=16384/\ObT K' n' (cutT t o)) (.tuple #[.agg Nd.none.cs,.int .i64 1]) (S K (c - 30)):=.inl ⟨1,by decide,rfl,rfl⟩
  have HF:=Lib.hid F
  refine Tq.of λ W h B=>?_
  clear F ht hb o
  by_cases h1:size < 0
  ·go_enter Tryz.func97,Tryz.ntmps97
   go_wp2_with (with_reducible apply wpList_build0)
   (refine bodyPost_ret (rc13 rfl _ _ _ _ rfl ii) rfl ?_)
   (first | apply fin_a | apply fin_b)
   exact ⟨HF.out,(Bt.fin (p:=S K c)).mono λ h q=>T.less _ _ _ (by omega) h q⟩
  ·have h2:16384 < size:=by omega
   go_enter Tryz.func97,Tryz.ntmps97
   go_wp2_with (with_reducible apply wpList_build0)
   (refine bodyPost_ret (rc13 rfl _ _ _ _ rfl ii) rfl ?_)
   (first | apply fin_a | apply fin_b)
   exact ⟨HF.out,(Bt.fin (p:=S K c)).mono λ h q=>T.less _ _ _ (by omega) h q⟩
end
section
variable {P:Program} {ops:Array Oper} {md:Region.Mode} {Q:Exit->Act->World->Prop} {C H:World->Prop}
theorem anyC_take {loud soft:List Nat} {i:Nat} {oi:Oper} {v:Value} (hi:ops[i]?=some oi) (hil:i ∉ loud) (hsel:∀ (j:Nat) (o:Oper) cs b,ops[j]?=some o->o.op≠.select cs b) :
  ∀ (f:Nat) (C:World->Prop) (listed:Array Bool) (a:Act),Closed md ops listed ->
   (∀ j oj,ops[j]?=some oj->j≠i->listed.getD j true=false->(∀ e∈oj.after,Region.binds md e=true->e.on≠i)->oi.apart ops oj=true) ->
   i∈Region.ready md ops listed->(∀ D:World->Prop,YieldsIn P ops D oi v a) ->
   AnyH P md ops loud soft H Q f C (listed.setIfInBounds i true) (a.put oi.dst v)->AnyH P md ops loud soft H Q (f+1) C listed a:=by
 intro f
 induction f with
 | zero =>
  intro C listed a _ _ hr hy K
  refine ⟨λ h=>(by rw [h] at hr;cases hr),λ j hj=>?_⟩
  by_cases hji:j=i
  ·subst hji;rw [if_neg hil];exact (hy C).qOp hi K
  ·have:=ready_mono hj hji
   rw [K.1] at this
   cases this
 | succ f ih =>
  intro C listed a hcl hfree hr hy K
  refine ⟨λ h=>(by rw [h] at hr;cases hr),λ j hj=>?_⟩
  by_cases hji:j=i
  ·subst hji;rw [if_neg hil];exact (hy C).qOp hi K
  ·have h1:=K.2 j (ready_mono hj hji)
   obtain ⟨hjun,oj,hoj,hall⟩:=mem_ready.1 hj
   have hiun:=getD_both (mem_ready.1 hr).1
   have hnot:∀ e∈oj.after,Region.binds md e=true->e.on≠i:=λ e he hb heq=>by
    have h1:=hall e he hb
    rw [heq,hiun] at h1
    cases h1
   have hap:=hfree j oj hoj hji hjun hnot
   have h3:=(Oper.apart_spec hap).2.2
   have hsi:∀ cs b,oi.op≠.select cs b:=λ cs b=>hsel i oi cs b hi
   have hfree':∀ k ok,ops[k]?=some ok->k≠i->(listed.setIfInBounds j true).getD k true=false ->
     (∀ e∈ok.after,Region.binds md e=true->e.on≠i)->oi.apart ops ok=true:=λ k ok hk hki hun hno=>by
    refine hfree k ok hk hki ?_ hno
    by_cases hjk:j=k
    ·subst hjk;exact hjun
    ·rw [getD_set_ne true hjk] at hun;exact hun
   have hcl':=hcl.set hj
   have hr':=ready_mono hr (Ne.symm hji)
   by_cases hjl:j∈loud
   ·rw [if_pos hjl] at h1 ⊢
    intro w hw
    refine wpOp_mono (λ a' w' h5=>?_) (wpOp_put' (Y:=λ a'=>∀ D:World->Prop,YieldsIn P ops D oi v a') hoj hap (λ cs b=>hsel j oj cs b hoj) (λ u l D=>yields_put hsi h3 (hy D) u l) (h1 w hw))
    obtain ⟨hy5,D,hD,hg,h5⟩:=h5
    refine ⟨D,hD,hg,ih D (listed.setIfInBounds j true) a' hcl' hfree' hr' hy5 ?_⟩
    rw [Array.setIfInBounds_comm _ _ hji]
    exact h5
   ·rw [if_neg hjl] at h1 ⊢
    refine qOp_mono (λ a' h5=>ih C (listed.setIfInBounds j true) a' hcl' hfree' hr' h5.1 ?_) (qOp_put' (Y:=λ a'=>∀ D:World->Prop,YieldsIn P ops D oi v a') hoj hap (λ cs b=>hsel j oj cs b hoj) (λ u D=>yields_put hsi h3 (hy D) u a.defers) h1)
    rw [Array.setIfInBounds_comm _ _ hji]
    exact h5.2
def Plan.runC (P:Program) (ops:List Oper) (Q:Exit->Act->World->Prop) (soft:List Nat):Plan->(World->Prop)->(World->Prop)->Act->Prop
 | .d,_,C,a=>∀ w,C w->Q .normal a w
 | .q l n,H,C,a=>wpQuiet P ops.toArray C (n.runC P ops Q soft H C) (pick ops l) a
 | .f l n,H,C,a=>wpQuiet P ops.toArray H (n.runC P ops Q soft H C) (pick ops l) a
 | .c i n,H,C,a=>wpQuiet P ops.toArray (λ _=>True) (n.runC P ops Q soft H C) (pick ops [i]) a
 | .x l n,H,C,a=>∀ w,C w->wpList P ops.toArray (Nx λ a' w'=>∃ H':World->Prop,(GC H'/\∀ v,H' v->H v)/\(l.all soft.contains=true->H' w')/\n.runC P ops Q soft H' (Cls w') a') (pick ops l) a w
 | .y i j n m,H,C,a=>(∀ w,C w->wpList P ops.toArray (Nx λ a' w'=>∃ H':World->Prop,(GC H'/\∀ v,H' v->H v)/\(soft.contains i=true->H' w')/\n.runC P ops Q soft H' (Cls w') a') (pick ops [i]) a w)/\∀ w,C w->wpList P ops.toArray (Nx λ a' w'=>∃ H':World->Prop,(GC H'/\∀ v,H' v->H v)/\(soft.contains j=true->H' w')/\m.runC P ops Q soft H' (Cls w') a') (pick ops [j]) a w
 | _,_,_,_=>False
def Plan.okC (md:Region.Mode) (ops:Array Oper) (loud soft:List Nat):Bool->Plan->Array Bool->Bool
 | _,.d,listed=>(Region.ready md ops listed).isEmpty
 | b,.q l n,listed=>Go.Proofs.YtlfjdjndhcmliaaGreatDoor.okH md ops loud soft true (n.okC md ops loud soft b) l listed
 | b,.f l n,listed=>b && Go.Proofs.YtlfjdjndhcmliaaGreatDoor.okH md ops loud soft false (n.okC md ops loud soft b) l listed
 | b,.c i n,listed=>(Region.ready md ops listed).contains i && Region.free md ops listed i && !loud.contains i && opB ops calm i && n.okC md ops loud soft b (listed.setIfInBounds i true)
 | b,.x [i] n,listed=>decide (Region.ready md ops listed=[i]) && loud.contains i && n.okC md ops loud soft (b && soft.contains i) (listed.setIfInBounds i true)
 | b,.y i j n m,listed=>(Region.ready md ops listed).all (λ k=>k == i || k == j) && !(Region.ready md ops listed).isEmpty && loud.contains i && loud.contains j && decide (n.size=m.size) && n.okC md ops loud soft (b && soft.contains i) (listed.setIfInBounds i true) && m.okC md ops loud soft (b && soft.contains j) (listed.setIfInBounds j true)
 | _,_,_=>false
theorem anyC_of_plan {loud soft:List Nat} (hsel:∀ (j:Nat) (o:Oper) cs b,ops[j]?=some o->o.op≠.select cs b):∀ (t:Plan) (b:Bool) (H C:World->Prop) (listed:Array Bool) (a:Act),GC H->(b=true->∀ w,C w->H w)->Closed md ops listed->t.okC md ops loud soft b listed=true->t.runC P ops.toList Q soft H C a ->
  AnyH P md ops loud soft H Q t.size C listed a
 | .d,_,H,C,listed,a,_,_,_,hB,h=>⟨by simpa [Plan.okC] using hB,h⟩
 | .q l n,b,H,C,listed,a,hH,hC,hcl,hB,h=>anyH_q (hard:=true) hsel (λ _=>rfl) (λ h=>by cases h) (λ listed' a' hc hB' h'=>anyC_of_plan hsel n b H C listed' a' hH hC hc hB' h') l listed a hcl hB (by simpa [Plan.runC] using h)
 | .f l n,b,H,C,listed,a,hH,hC,hcl,hB,h=>by
  simp only [Plan.okC,Bool.and_eq_true] at hB
  exact anyH_q (hard:=false) hsel (λ h=>by cases h) (λ _=>⟨rfl,hC hB.1⟩) (λ listed' a' hc hB' h'=>anyC_of_plan hsel n b H C listed' a' hH hC hc hB' h') l listed a hcl hB.2 (by simpa [Plan.runC] using h)
 | .c i n,b,H,C,listed,a,hH,hC,hcl,hB,h=>by
  simp only [Plan.okC,Bool.and_eq_true] at hB
  obtain ⟨⟨⟨⟨hr,hf⟩,hl⟩,hh⟩,hB'⟩:=hB
  have hr:i∈Region.ready md ops listed:=by simpa using hr
  obtain ⟨_,oi,hoi,_⟩:=mem_ready.1 hr
  have hoi':ops.toList[i]?=some oi:=by simpa using hoi
  simp only [Plan.runC,pick,hoi',List.append_nil,Array.toArray_toList] at h
  have hq:qOp P ops (λ _=>True) i (n.runC P ops.toList Q soft H C) a:=by
   unfold qOp;simp only [hoi];exact h
  obtain ⟨v,hy,hK⟩:=yieldsIn_of_qOp hoi hq
  simp only [opB,hoi,Option.map_some,Option.getD_some] at hh
  rw [show (Plan.c i n).size=n.size+1 by simp [Plan.size,Nat.add_comm]]
  exact anyC_take hoi (by simpa using hl) hsel _ C listed a hcl (Region.free_spec hoi hf) hr (λ D=>yields_sub (calm_enters hh) hy D λ _ _=>trivial) (anyC_of_plan hsel n b H C _ _ hH hC (hcl.set hr) hB' hK)
 | .x [i] n,b,H,C,listed,a,hH,hC,hcl,hB,h=>by
  simp only [Plan.okC,Bool.and_eq_true,decide_eq_true_eq] at hB
  obtain ⟨⟨hr,hl⟩,hn⟩:=hB
  have hri:i∈Region.ready md ops listed:=by rw [hr];simp
  obtain ⟨_,oi,hoi,_⟩:=mem_ready.1 hri
  have hoi':ops.toList[i]?=some oi:=by simpa using hoi
  rw [show (Plan.x [i] n).size=n.size+1 by simp [Plan.size,Nat.add_comm]]
  refine ⟨by rw [hr];simp,λ j hj=>?_⟩
  obtain rfl:j=i:=by rw [hr] at hj;simpa using hj
  rw [if_pos (by simpa using hl)]
  intro w hw
  have h1:wpList P ops (Nx λ a' w'=>∃ H':World->Prop,(GC H'/\∀ v,H' v->H v)/\([j].all soft.contains=true->H' w')/\n.runC P ops.toList Q soft H' (Cls w') a') (pick ops.toList [j]) a w:=by simpa [Plan.runC] using h w hw
  simp only [pick,hoi',List.append_nil] at h1
  refine wpOp_mono (λ a' w' hh=>?_) (wpOp_of_list hoi h1)
  obtain ⟨H',⟨hG,hsub⟩,h2,h3⟩:∃ H':World->Prop,(GC H'/\∀ v,H' v->H v)/\([j].all soft.contains=true->H' w')/\n.runC P ops.toList Q soft H' (Cls w') a':=hh
  have hs:j∈soft->∀ v,Cls w' v->H' v:=λ hj v hv=>hG _ _ (h2 (by simpa using hj)) hv
  exact ⟨Cls w',cls_self w',λ hj v hv=>hsub v (hs hj v hv),anyH_mono hsub _ _ _ _ (anyC_of_plan hsel n _ H' (Cls w') _ a' hG (λ hb=>hs (by simp only [Bool.and_eq_true] at hb;simpa using hb.2)) (hcl.set hri) hn h3)⟩
 | .y i j n m,b,H,C,listed,a,hH,hC,hcl,hB,h=>by
  simp only [Plan.okC,Bool.and_eq_true,decide_eq_true_eq] at hB
  obtain ⟨⟨⟨⟨⟨⟨hr,he⟩,hli⟩,hlj⟩,hz⟩,hn⟩,hm⟩:=hB
  simp only [Plan.runC] at h
  rw [show (Plan.y i j n m).size=n.size+1 by simp [Plan.size]]
  refine ⟨λ e=>by rw [e] at he;simp at he,λ k hk=>?_⟩
  have hk2:=List.all_eq_true.1 hr k hk
  simp only [Bool.or_eq_true,beq_iff_eq] at hk2
  obtain ⟨_,ok,hok,_⟩:=mem_ready.1 hk
  have hok':ops.toList[k]?=some ok:=by simpa using hok
  rcases hk2 with rfl | rfl
  ·rw [if_pos (by simpa using hli)]
   intro w hw
   have h1:=h.1 w hw
   simp only [Array.toArray_toList,pick,hok',List.append_nil] at h1
   refine wpOp_mono (λ a' w' hh=>?_) (wpOp_of_list hok h1)
   obtain ⟨H',⟨hG,hsub⟩,h2,h3⟩:∃ H':World->Prop,(GC H'/\∀ v,H' v->H v)/\(soft.contains k=true->H' w')/\n.runC P ops.toList Q soft H' (Cls w') a':=hh
   have hs:k∈soft->∀ v,Cls w' v->H' v:=λ hj v hv=>hG _ _ (h2 (by simpa using hj)) hv
   exact ⟨Cls w',cls_self w',λ hj v hv=>hsub v (hs hj v hv),anyH_mono hsub _ _ _ _ (anyC_of_plan hsel n _ H' (Cls w') _ a' hG (λ hb=>hs (by simp only [Bool.and_eq_true] at hb;simpa using hb.2)) (hcl.set hk) hn h3)⟩
  ·rw [if_pos (by simpa using hlj)]
   intro w hw
   have h1:=h.2 w hw
   simp only [Array.toArray_toList,pick,hok',List.append_nil] at h1
   rw [hz]
   refine wpOp_mono (λ a' w' hh=>?_) (wpOp_of_list hok h1)
   obtain ⟨H',⟨hG,hsub⟩,h2,h3⟩:∃ H':World->Prop,(GC H'/\∀ v,H' v->H v)/\(soft.contains k=true->H' w')/\m.runC P ops.toList Q soft H' (Cls w') a':=hh
   have hs:k∈soft->∀ v,Cls w' v->H' v:=λ hj v hv=>hG _ _ (h2 (by simpa using hj)) hv
   exact ⟨Cls w',cls_self w',λ hj v hv=>hsub v (hs hj v hv),anyH_mono hsub _ _ _ _ (anyC_of_plan hsel m _ H' (Cls w') _ a' hG (λ hb=>hs (by simp only [Bool.and_eq_true] at hb;simpa using hb.2)) (hcl.set hk) hm h3)⟩
 | .x [] _,_,_,_,_,_,_,_,_,hB,_ | .x (_::_::_) _,_,_,_,_,_,_,_,_,hB,_ | .g _ _,_,_,_,_,_,_,_,_,hB,_ | .z _ _ _ _,_,_,_,_,_,_,_,_,hB,_=>by simp [Plan.okC] at hB
theorem wp_region_planD {id:Nat} {a:Act} {w:World} {l:List Oper} (H:World->Prop) (soft:List Nat) (t:Plan) (hH:GC H) (h0:H w) (hm:P.follows .mixedOrders=true) (hB:(Region.noSelect l.toArray && decide (t.size=l.length) && t.okC .any l.toArray t.louds soft true (Array.replicate l.length false))=true)
  (h:t.runC P l Q soft H (Cls w) a):(Code.region id l.toArray true).wp P Q a w:=by
 simp only [Bool.and_eq_true,decide_eq_true_eq] at hB
 obtain ⟨⟨hs,hz⟩,hk⟩:=hB
 refine wp_region_any hm (wpAny_of_anyH (loud:=t.louds) (soft:=soft) (H:=H) _ (Cls w) _ _ _ ⟨⟨w.drawn+1,#[]⟩,by simp only [gr,grow_empty];rfl⟩ ?_)
 have:=anyC_of_plan (md:=.any) (Q:=Q) (Region.noSelect_spec hs) t true H (Cls w) (Array.replicate l.length false) a hH (λ _ v hv=>hH _ _ h0 hv) (λ j oj _ hl=>by rw [getD_replicate_false] at hl;cases hl) hk (by simpa using h)
 rw [hz] at this
 simpa using this
end
end Go.Proofs.YtlfjdjndhcmliaaGreatDoor
