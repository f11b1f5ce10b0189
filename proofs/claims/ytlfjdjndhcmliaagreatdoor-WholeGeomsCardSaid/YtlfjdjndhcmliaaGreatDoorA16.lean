/- WholeGeoms, part 16. -/
import Derived.Test.YtlfjdjndhcmliaaGreatDoorA15
import Derived.Test.YtlfjdjndhcmliaaGreatDoorA14
import Derived.Test.YtlfjdjndhcmliaaGreatDoorA13
set_option maxRecDepth 100000
set_option maxHeartbeats 4000000
set_option linter.all false
namespace Go.Proofs.YtlfjdjndhcmliaaGreatDoor
open Go.RowKit Go.Sort
theorem fin_a {x:Value} {R:Value->SP->Prop} {G:SP->Prop} {q:SP} (h:R x q/\G q):∃ v q,Ending.returned x=.returned v/\R v q/\G q:=⟨_,q,rfl,h⟩
theorem fin_b {x:Value} {R:Value->SP->Prop} {G:SP->Prop} {q:SP} (h:R x q/\G q):∃ v,Ending.returned x=.returned v/\∃ q,R v q/\G q:=⟨_,rfl,q,h⟩
theorem zeroI_iff (s:ByteArray) (i:Nat):zeroI s i=true ↔ ∀ j,i<=j->byteAt s j=0:=by
 constructor
 ·intro h j hj
  false_or_by_contra
  rename_i hne
  have hlt:j < s.size:=by
   rcases Nat.lt_or_ge j s.size with h1 | h1
   ·exact h1
   ·exact absurd (byteAt_ge h1) hne
  have:=zeroI_not s i (byteAt s j) hne (by
   rw [Int.toNat_natCast]
   refine List.mem_of_getElem? (i:=j - i) ?_
   rw [List.getElem?_drop,show i+(j - i)=j by omega]
   unfold byteAt
   rw [List.getD_eq_getElem?_getD,List.getElem?_eq_getElem (by rw [size_list];exact hlt)];rfl)
  rw [this] at h;cases h
 ·intro h
  refine zeroI_of s i λ b hb=>?_
  rw [Int.toNat_natCast] at hb
  obtain ⟨k,hk,rfl⟩:=List.mem_iff_getElem.1 hb
  have:=h (i+k) (by omega)
  unfold byteAt at this
  rw [List.getElem_drop]
  rw [List.length_drop] at hk
  rw [List.getD_eq_getElem?_getD,List.getElem?_eq_getElem (by omega)] at this
  exact this
theorem trim_fin {g0:Nat->UInt8} {z:Nat} {t:ByteArray} (hs:∀ j,j < 256->g0 (256*(z / 256)+j)=byteAt t j) (hz:∀ j:Nat,256*((z+255) / 256)<=j->g0 j=0) (h:z % 256 < t.size) (j:Nat):cutB g0 z j=putB g0 (z / 256) (t.extract 0 (z % 256)) j:=by
 unfold cutB putB
 rw [byteAt_ext]
 split
 ·rename_i h1
  split
  ·rename_i h2
   rw [if_pos (by omega),Nat.zero_add,<- hs _ (by omega)]
   congr 1;omega
  ·rfl
 ·rename_i h1
  split
  ·rw [if_neg (by omega)]
  ·exact (hz j (by omega)).symm
section
variable {st:Nat} {S:KS->Nat->SP} (T:Sto st S)
include T
theorem trimmed_tq (K:KS) (c:Nat) {z:Nat} {r0:Pt} {g0:Nat->UInt8} (o:ObW K ⟨z,r0⟩ g0) (hz:∀ j:Nat,256*((z+255) / 256)<=j->g0 j=0) (hc:4<=c) :
  Tq 164 #[stV st,.agg (Nd.mk z r0).cs] (S K c) (RN S K (c - 4) λ n' K'=>n'.size=z/\Ob K' n' (cutB g0 z)):=by
 have L:=λ i hi=>block_tw T K c (i:=i) o hi
 obtain ⟨⟨z0,z1⟩,t0,_⟩:=o
 have z1:z<=16384:=by have:((z:Int))<=16384:=z1;omega
 obtain ⟨k0,hk0,hk3⟩:=lvl_nat z
 have t0:Tr K k0 r0 g0:=by have:(lvl z).toNat=k0:=(by omega);rw [<-this];exact t0
 have V0:∀ w,Fn 161 #[.int .i64 (z:Nat)] w (.int .i64 k0):=λ w=>by have e:=level_fn z w;rw [hk0] at e;exact e
 have hsp:=lvl_span (show (z:Int)<=16384 by omega)
 rw [hk0,Int.toNat_natCast] at hsp
 have Hz:=Lib.hid hz
 have Hk:=Lib.hid hk0
 have Hsp:=Lib.hid hsp
 have keep:∀ K1:KS,K.le K1->(∀ j,z<=j->j < 256*(z / 256+1)->g0 j=0)->Ob K1 ⟨z,r0⟩ (cutB g0 z):=λ K1 hK h=>by
  have e:∀ j,cutB g0 z j=g0 j:=λ j=>by
   unfold cutB
   split
   ·rfl
   ·rename_i h1
    rcases Nat.lt_or_ge j (256*(z / 256+1)) with h2 | h2
    ·exact (h j (by omega) h2).symm
    ·exact (Hz.out j (by omega)).symm
  refine ⟨by dsimp only;omega,?_,λ j hj=>if_neg (by have:(z:Int)<=j:=hj;omega)⟩
  dsimp only
  rw [Hk.out,Int.toNat_natCast]
  exact (t0.mono hK).congr λ j _=>e j
 have Keep:=Lib.hid keep
 clear hz hk0 hsp keep z0
 refine Tq.of λ W h B=>?_
 by_cases hr:z % 256=0
 ·have hr':(z:Int) % 256=0:=by omega
  go_enter Tryz.func164,Tryz.ntmps164
  go_wp2_with fail
  (first | (with_reducible refine pl2 (.q [0,1,2,3,4,5,6,7] .d) ?_) | refine pl1 (.q [0,1,2,3,4,5,6,7] .d) ?_);simp only [Plan.run,pick,gZ,gS,gA,gN]
  (repeat (first | ((with_reducible apply wpQuiet_build_ix);(·exact rfl);go_frame) | ((with_reducible apply wpQuiet_build_nd);(·exact rfl);(·exact rfl);go_frame) | ((with_reducible apply wpQuiet_nilput);(·exact rfl);go_frame) | ((with_reducible apply wpQuiet_load);(·exact rfl);(·rintro _ ⟨gq,rfl⟩;exact ii);go_frame) | go_big_quiet_step (exact qZ)));refine nZ ?_
  rintro w2 hw2
  have B2:=btCls hw2
  clear hw2
  go_wp2_with ((with_reducible apply wpList_load);(·exact rfl);(·exact ii))
  (refine bodyPost_ret (rc13 rfl _ _ _ _ rfl ii) rfl ?_)
  (first | apply fin_a | apply fin_b)
  exact ⟨.inr ⟨⟨z,r0⟩,K,rfl,rfl,KS.le.refl K,rfl,Keep.out K (KS.le.refl K) λ j h1 h2=>Hz.out j (by omega)⟩,(Bt.fin (p:=S K c)).mono λ h q=>T.less _ _ _ (by omega) h q⟩
 ·have L1:=L (z / 256) (by omega)
  rw [show (((z / 256:Nat)):Int)=(z:Int) / 256 by omega] at L1
  obtain ⟨r,hrz⟩:∃ r,r=z % 256:=⟨_,rfl⟩
  have hzr:(z:Int) % 256=(r:Int):=by omega
  have hr':((r:Int) == 0)=false:=by rw [beq_eq_false_iff_ne];omega
  have hr2:r < 256:=by omega
  have Hrz:=Lib.hid hrz
  clear hrz
  clear L
  go_enter Tryz.func164,Tryz.ntmps164
  go_wp2_with fail
  (first | (with_reducible refine pl2 (.q [0,1,2,3,4,5,6,7] .d) ?_) | refine pl1 (.q [0,1,2,3,4,5,6,7] .d) ?_);simp only [Plan.run,pick,gZ,gS,gA,gN]
  (repeat (first | ((with_reducible apply wpQuiet_build_ix);(·exact rfl);go_frame) | ((with_reducible apply wpQuiet_build_nd);(·exact rfl);(·exact rfl);go_frame) | ((with_reducible apply wpQuiet_nilput);(·exact rfl);go_frame) | ((with_reducible apply wpQuiet_load);(·exact rfl);(·rintro _ ⟨gq,rfl⟩;exact ii);go_frame) | go_big_quiet_step (exact qZ)));refine nZ ?_
  rintro w2 hw2
  have B2:=btCls hw2
  clear hw2
  go_wp2_with ((with_reducible apply wpList_load);(·exact rfl);(·exact ii))
  refine (Bt.call L1).mono ?_
  rintro e w3 ⟨v,q,rfl,⟨t,⟨rfl,rfl⟩,⟨h4,h2⟩,hs⟩,B3⟩
  dsimp only at B3 ⊢
  have Fs:=Lib.hid hs
  have HD:=data_id h4 h2
  haveI:Sz t:=⟨by omega⟩
  have hzz:(trimS (t.extract r t.size)).toList.isEmpty=zeroI t (r:Nat):=by unfold zeroI;rw [Int.toNat_natCast]
  clear hs h4
  by_cases h0:t.size=0
  ·have e0:itV t=.iface 288 (.agg #[]):=if_pos h0
   obtain rfl:t=⟨#[]⟩:=ba_ext (List.eq_nil_of_length_eq_zero (by rw [size_list];exact h0))
   rw [e0]
   have Hzz:=Lib.hid hzz
   clear e0 h0 hzz
   go_wp2_with (first | (with_reducible refine Fn.go λ g=>?_) | ((with_reducible apply wpList_load);(·exact rfl);(·exact ii)))
   (refine bodyPost_ret (rc13 rfl _ _ _ _ rfl ii) rfl ?_)
   (first | apply fin_a | apply fin_b)
   exact ⟨.inr ⟨⟨z,r0⟩,K,rfl,rfl,KS.le.refl K,rfl,Keep.out K (KS.le.refl K) λ j h1 h2=>by
        have:=Fs.out (j - 256*(z / 256)) (by omega)
        rw [show 256*(z / 256)+(j - 256*(z / 256))=j by omega] at this
        rw [this];rfl⟩,(Bt.fin (p:=S K c)).mono λ h q=>T.less _ _ _ (by omega) h q⟩
  ·have e0:itV t=.iface 316 (.agg #[.string t]):=if_neg h0
   rw [e0]
   clear e0 h0
   rcases Nat.lt_or_ge r t.size with h5 | h5
   ·have h6:¬ (t.size:Int)<=(r:Int):=by omega
    cases hq:zeroI t (r:Nat)
    ·rw [hq] at hzz
     have Hq:=Lib.hid hq
     clear hq
     go_wp2_with (with_reducible refine Fn.go λ g=>?_)
     (first | (with_reducible refine pl2 (.q [0,1,2,3,4,5,6,7,8,9] (.x [10] (.q [11,12,14] (.f [13] (.x [15] (.q [16] .d)))))) ?_) | refine pl1 (.q [0,1,2,3,4,5,6,7,8,9] (.x [10] (.q [11,12,14] (.f [13] (.x [15] (.q [16] .d)))))) ?_);simp only [Plan.run,pick,gZ,gS,gA,gN]
     (try go_frame)
     (repeat (first | ((with_reducible apply wpQuiet_build_ix);(·exact rfl);go_frame) | ((with_reducible apply wpQuiet_build_nd);(·exact rfl);(·exact rfl);go_frame) | ((with_reducible apply wpQuiet_nilput);(·exact rfl);go_frame) | ((with_reducible apply wpQuiet_load);(·exact rfl);(·rintro _ ⟨gq,rfl⟩;exact ii);go_frame) | go_big_quiet_step (exact qZ)));refine nZ ?_
     rintro w3 hw3
     have B3:=btCls hw3
     clear hw3
     go_wp2_with fail
     refine (Bt.call (set_tq T k0 K c r0 g0 (z / 256) _ t0 hk3 (by have:=Hsp.out;unfold span at this;omega) (by omega) ?_ ?_)).mono ?_
     ·rw [ByteArray.size_extract];omega
     ·rw [ByteArray.size_extract];omega
     rintro e w4 ⟨v,q,rfl,hR,B4⟩
     dsimp only at B4 ⊢
     rcases hR with ⟨e,he,rfl,rfl⟩ | ⟨p2,K2,rfl,rfl,hK2,hp2,t2⟩
     ·go_wp2_with fail
      dsimp only [Nx]
      (repeat go_big_quiet_step (exact qZ));refine nZ ?_
      (repeat go_big_quiet_step (exact qZ));refine nZ ?_
      refine btI ?_;intro w2 B2;go_wp2_with (first | ((with_reducible apply wpList_store);(·exact rfl);(·exact rfl);(·exact ii)) | (with_reducible apply wpList_build0));dsimp only [Nx];(repeat go_big_quiet_step (exact qZ));refine nZ ?_;(first | (rintro w3 hw3;have B3:=btCls hw3;clear hw3) | rintro g3);go_wp2_with (first | ((with_reducible apply wpList_store);(·exact rfl);(·exact rfl);(·exact ii)) | (with_reducible apply wpList_build0))
      (refine bodyPost_ret (rc13 rfl _ _ _ _ rfl ii) rfl ?_)
      exact ⟨_,_,rfl,.inl ⟨e,he,rfl,rfl⟩,(Bt.fin (p:=S K (c - (k0+1)))).mono λ h q=>T.less _ _ _ (by omega) h q⟩
     ·have T2:=Lib.hid t2
      clear t2 hp2
      go_wp2_with fail
      dsimp only [Nx]
      (repeat go_big_quiet_step (exact qZ));refine nZ ?_
      (repeat go_big_quiet_step (exact qZ));refine nZ ?_
      refine btI ?_;intro w2 B2;go_wp2_with (first | ((with_reducible apply wpList_load);(·exact rfl);(·exact ii)) | ((with_reducible apply wpList_store);(·exact rfl);(·exact rfl);(·exact ii)));dsimp only [Nx];(repeat go_big_quiet_step (exact qZ));refine nZ ?_;(first | (rintro w3 hw3;have B3:=btCls hw3;clear hw3) | rintro g3);go_wp2_with (first | ((with_reducible apply wpList_load);(·exact rfl);(·exact ii)) | ((with_reducible apply wpList_store);(·exact rfl);(·exact rfl);(·exact ii)))
      (refine bodyPost_ret (rc13 rfl _ _ _ _ rfl ii) rfl ?_)
      refine ⟨_,_,rfl,.inr ⟨⟨z,p2⟩,K2,rfl,rfl,hK2,rfl,⟨by dsimp only;omega,?_,λ j hj=>if_neg (by have:(z:Int)<=j:=hj;omega)⟩⟩,(Bt.fin (p:=S K2 (c - (k0+1)))).mono λ h q=>T.less _ _ _ (by omega) h q⟩
      dsimp only
      rw [Hk.out,Int.toNat_natCast]
      refine T2.out.congr λ j hj=>by rw [Hrz.out];exact trim_fin Fs.out Hz.out (by rw [<-Hrz.out];exact h5) j
    ·rw [hq] at hzz
     have Hq:=Lib.hid hq
     clear hq
     go_wp2_with (first | (with_reducible refine Fn.go λ g=>?_) | ((with_reducible apply wpList_load);(·exact rfl);(·exact ii)))
     (refine bodyPost_ret (rc13 rfl _ _ _ _ rfl ii) rfl ?_)
     (first | apply fin_a | apply fin_b)
     exact ⟨.inr ⟨⟨z,r0⟩,K,rfl,rfl,KS.le.refl K,rfl,Keep.out K (KS.le.refl K) λ j h1 h2=>by
       have:=Fs.out (j - 256*(z / 256)) (by omega)
       rw [show 256*(z / 256)+(j - 256*(z / 256))=j by omega] at this
       rw [this]
       exact (zeroI_iff t r).1 Hq.out _ (by have:=Hrz.out;omega)⟩,(Bt.fin (p:=S K c)).mono λ h q=>T.less _ _ _ (by omega) h q⟩
   ·have h6:(t.size:Int)<=(r:Int):=by omega
    have Hzz:=Lib.hid hzz
    clear hzz
    go_wp2_with (first | (with_reducible refine Fn.go λ g=>?_) | ((with_reducible apply wpList_load);(·exact rfl);(·exact ii)))
    (refine bodyPost_ret (rc13 rfl _ _ _ _ rfl ii) rfl ?_)
    (first | apply fin_a | apply fin_b)
    exact ⟨.inr ⟨⟨z,r0⟩,K,rfl,rfl,KS.le.refl K,rfl,Keep.out K (KS.le.refl K) λ j h1 h2=>by
         have:=Fs.out (j - 256*(z / 256)) (by omega)
         rw [show 256*(z / 256)+(j - 256*(z / 256))=j by omega] at this
         rw [this,byteAt_ge (by have:=Hrz.out;omega)]⟩,(Bt.fin (p:=S K c)).mono λ h q=>T.less _ _ _ (by omega) h q⟩
end
theorem ext_all (s:ByteArray):s.extract 0 s.size=s:=ba_ext (by simp [ByteArray.data_extract])
theorem ext_ext (s:ByteArray) (a k:Nat):s.extract (a+k) s.size=(s.extract a s.size).extract k (s.extract a s.size).size:=ba_ext (by
 simp [List.extract_eq_take_drop]
 omega)
theorem wrB_two (g:Nat->UInt8) (s:ByteArray) (off a k o':Nat) (ho:o'=off+a) (hk:a+k<=s.size) (j:Nat):wrB g off (s.extract 0 (a+k)) j=wrB (wrB g off (s.extract 0 a)) (256*(o' / 256)+o' % 256) ((s.extract a s.size).extract 0 k) j:=by
 have e:256*(o' / 256)+o' % 256=off+a:=by omega
 rw [e]
 unfold wrB
 simp only [ByteArray.size_extract,byteAt_ext]
 (repeat' split) <;> first | rfl | (exfalso;omega) | (congr 1;omega)
theorem Bt.sw {W w:World} {h:Hl} {l l':List SP} [B:Bt W h l w] (i:Nat) {p q:SP} (e:l[i]?=some p) (e':l'=l.set i q) (f:∀ h,p h->q h):Bt W h l' w:=e' ▸ B.map e f
theorem Ob.congr {K:KS} {n:Nd} {g g':Nat->UInt8} (o:Ob K n g) (h:∀ j,g' j=g j):Ob K n g':=by
 rw [show g'=g from funext h];exact o
section
variable {st:Nat} {S:KS->Nat->SP} (T:Sto st S)
include T
theorem twrite_tq (K:KS) (c:Nat) {z:Nat} {r0:Pt} {g0:Nat->UInt8} (o:Ob K ⟨z,r0⟩ g0) (off:Nat) (s:ByteArray) (hs:s.size≠0) (ho:off+s.size<=16384) (hc:70000<=c) :
  Tq 65 #[stV st,.agg (Nd.mk z r0).cs,.int .i64 off,.string s] (S K c) (RN S K (c - 70000) λ n' K'=>n'.size=(max z (off+s.size):Nat)/\Ob K' n' (wrB g0 off s)):=by
 have G:=grown_tq T K c o (off+s.size) ho (by omega)
 rw [show (((off+s.size:Nat):Int))=(off:Int)+s.size by omega] at G
 have hne:s.toList.isEmpty=false:=ne_of_size hs
 have hz:z<=16384:=by have:((z:Int))<=16384:=o.sz.2;omega
 obtain ⟨M,hM⟩:∃ M,M=max z (off+s.size):=⟨_,rfl⟩
 have hM1:off+s.size<=M:=by omega
 have hM2:M<=16384:=by omega
 rw [<-hM] at G ⊢
 clear hM
 refine Tq.of λ W h B=>?_
 go_enter Tryz.func65,Tryz.ntmps65
 go_wp2_with ((with_reducible apply wpList_load);(·exact rfl);(·exact ii))
 refine (Bt.call G).mono ?_
 rintro e w1 ⟨v,q,rfl,hR,B1⟩
 dsimp only at B1 ⊢
 rcases hR with ⟨e,he,rfl,rfl⟩ | ⟨p1,K1,rfl,rfl,hK1,hz1,o1⟩
 ·go_wp2_with (with_reducible apply wpList_build0)
  (refine bodyPost_ret (rc13 rfl _ _ _ _ rfl ii) rfl ?_)
  exact ⟨_,_,rfl,.inl ⟨e,he,rfl,rfl⟩,(Bt.fin (p:=S K (c - 3))).mono λ h q=>T.less _ _ _ (by omega) h q⟩
 ·obtain ⟨p1s,p1r⟩:=p1
  obtain rfl:p1s=(M:Nat):=hz1
  have O1:=Lib.hid o1
  clear o1
  have hs0:s.extract 0 s.size=s:=ext_all s
  have Hs0:=Lib.hid hs0
  clear hs0
  go_wp2_with fail
  go_loopw [2,3] (λ ov sv wr=>∃ (a:Nat) (r:Pt) (K2:KS),a<=s.size/\ov=.int .i64 (off+a:Nat)/\sv=.string (s.extract a s.size)/\K.le K2/\Ob K2 ⟨M,r⟩ (wrB g0 off (s.extract 0 a))/\Bt W h [BlkP (W.heap.size+1) Nd.none.cs 52,BlkP W.heap.size (Nd.mk M r).cs 52,S K2 (c - 3 - 4*a)] wr)
   (λ ov _ _=>off+s.size - (intOf ov).toNat)
  case atStart =>
   refine ⟨0,p1r,K1,Nat.zero_le _,rfl,by rw [Hs0.out],hK1,O1.out.congr λ j=>?_,?_⟩
   ·unfold wrB;rw [if_neg (by simp [ByteArray.size_extract])]
   ·rw [Nat.mul_zero,Nat.sub_zero];infer_instance
  case round =>
   clear B B1
   obtain ⟨a,r,K2,ha,rfl,rfl,hK2,o2,B⟩:=hrel
   obtain ⟨o',ho'⟩:∃ o',o'=off+a:=⟨_,rfl⟩
   obtain ⟨t,ht⟩:∃ t,t=s.extract a s.size:=⟨_,rfl⟩
   rw [<-ho',<- ht]
   have hts:t.size=s.size - a:=by rw [ht,ByteArray.size_extract];omega
   by_cases hlt:a < s.size
   ·obtain ⟨k,hk⟩:∃ k,k=min t.size (256 - o' % 256):=⟨_,rfl⟩
    have hk0:1<=k:=by omega
    have hk1:k<=t.size:=by omega
    have hk2:o' % 256+k<=256:=by omega
    have hmin:imin (t.size:Int) (256 - (o':Int) % 256)=k:=by unfold imin;split <;> omega
    have hX:(t.extract 0 k).size=k:=by rw [ByteArray.size_extract];omega
    have L:=laid_tq T K2 (c - 3 - 4*a) o2 (o' / 256) (by omega) (o' % 256) (t.extract 0 k) (by omega) (by omega) (by omega) (by omega)
    have hne2:t.toList.isEmpty=false:=ne_of_size (by omega)
    have he1:(((o' / 256:Nat)):Int)=(o':Int) / 256:=by omega
    have he2:(((o' % 256:Nat)):Int)=(o':Int) % 256:=by omega
    rw [he1,he2] at L
    have hob:o'<=16384:=by omega
    have hac:4*a<=65536:=by omega
    have Ht:=Lib.hid ht
    have Ho:=Lib.hid ho'
    have Hts:=Lib.hid hts
    clear ht ho' hts he1 he2 hk hX o2
    go_wp2_with fail
    (first | (with_reducible refine pl2 (.q [0,1,2,3,4,5,6,7] (.x [8] (.q [9,10] (.f [11] (.x [12] (.q [13] .d)))))) ?_) | refine pl1 (.q [0,1,2,3,4,5,6,7] (.x [8] (.q [9,10] (.f [11] (.x [12] (.q [13] .d)))))) ?_);simp only [Plan.run,pick,gZ,gS,gA,gN]
    (try go_frame)
    (repeat (first | ((with_reducible apply wpQuiet_build_ix);(·exact rfl);go_frame) | ((with_reducible apply wpQuiet_build_nd);(·exact rfl);(·exact rfl);go_frame) | ((with_reducible apply wpQuiet_nilput);(·exact rfl);go_frame) | ((with_reducible apply wpQuiet_load);(·exact rfl);(·rintro _ ⟨gq,rfl⟩;exact ii);go_frame) | go_big_quiet_step (exact qZ)));refine nZ ?_
    rintro w2 hw2
    have B2:=btCls hw2
    clear hw2
    go_wp2_with fail
    refine (Bt.call L).mono ?_
    rintro e w3 ⟨v,q,rfl,hR,B3⟩
    dsimp only at B3 ⊢
    rcases hR with ⟨e,he,rfl,rfl⟩ | ⟨p2,K3,rfl,rfl,hK3,hz3,o3⟩
    ·go_wp2_with fail
     dsimp only [Nx]
     (repeat go_big_quiet_step (exact qZ));refine nZ ?_
     (repeat go_big_quiet_step (exact qZ));refine nZ ?_
     refine btI ?_;intro w2 B2;go_wp2_with (with_reducible apply wpList_build0);dsimp only [Nx];(repeat go_big_quiet_step (exact qZ));refine nZ ?_;(first | (rintro w3 hw3;have B3:=btCls hw3;clear hw3) | rintro g3);go_wp2_with (with_reducible apply wpList_build0)
     (refine bodyPost_ret (rc13 rfl _ _ _ _ rfl ii) rfl ?_)
     exact ⟨_,_,rfl,.inl ⟨e,he,rfl,rfl⟩,(Bt.fin (p:=S K2 (c - 3 - 4*a - 4))).mono λ h q=>T.sub _ _ _ hK2 h (T.less _ _ _ (by omega) h q)⟩
    ·obtain ⟨p2s,p2r⟩:=p2
     obtain rfl:p2s=(M:Nat):=hz3
     have O3:=Lib.hid o3
     clear o3
     go_wp2_with fail
     dsimp only [Nx]
     (repeat go_big_quiet_step (exact qZ));refine nZ ?_
     (repeat go_big_quiet_step (exact qZ));refine nZ ?_
     refine btI ?_;intro w2 B2;go_wp2_with fail;dsimp only [Nx];(repeat go_big_quiet_step (exact qZ));refine nZ ?_;(first | (rintro w3 hw3;have B3:=btCls hw3;clear hw3) | rintro g3);go_wp2_with fail
     (first | (with_reducible refine pl2 (.q [0,1,2,3,4,5,6,7] .d) ?_) | refine pl1 (.q [0,1,2,3,4,5,6,7] .d) ?_);simp only [Plan.run,pick,gZ,gS,gA,gN]
     (try go_frame)
     (repeat (first | ((with_reducible apply wpQuiet_build_ix);(·exact rfl);go_frame) | ((with_reducible apply wpQuiet_build_nd);(·exact rfl);(·exact rfl);go_frame) | ((with_reducible apply wpQuiet_nilput);(·exact rfl);go_frame) | ((with_reducible apply wpQuiet_load);(·exact rfl);(·rintro _ ⟨gq,rfl⟩;exact ii);go_frame) | go_big_quiet_step (exact qZ)));refine nZ ?_
     rintro w5 hw5
     have B5:=btCls hw5
     clear hw5
     go_wp2_with fail
     have ho:=Ho.out
     have hts:=Hts.out
     refine ⟨⟨a+k,p2r,K3,by omega,congrArg (Value.int .i64) (by omega),congrArg Value.string ?_,hK2.trans hK3,O3.out.congr λ j=>?_,Bt.sw 2 rfl rfl (T.less _ _ _ (by omega))⟩,by simp [intOf];omega⟩
     ·rw [Ht.out];exact (ext_ext s a k).symm
     ·rw [Ht.out];exact wrB_two g0 s off a k o' ho (by omega) j
   ·obtain rfl:a=s.size:=by omega
    have hne2:t.toList.isEmpty=true:=by
     have:t=⟨#[]⟩:=ba_ext (List.eq_nil_of_length_eq_zero (by rw [size_list];omega))
     rw [this,ByteArray.toList_eq];rfl
    rw [Hs0.out] at o2
    have O2:=Lib.hid o2
    clear ht hts ho' o2
    go_wp2_with ((with_reducible apply wpList_load);(·exact rfl);(·exact ii))
    (refine bodyPost_ret (rc13 rfl _ _ _ _ rfl ii) rfl ?_)
    exact ⟨_,_,rfl,.inr ⟨⟨M,r⟩,K2,rfl,rfl,hK2,rfl,O2.out⟩,(Bt.fin (p:=S K2 (c - 3 - 4*s.size))).mono λ h q=>T.less _ _ _ (by omega) h q⟩
end
end Go.Proofs.YtlfjdjndhcmliaaGreatDoor
