/- WholeGeoms, part 5. -/
import Derived.Test.YtlfjdjndhcmliaaGreatDoorA04
import Derived.Test.YtlfjdjndhcmliaaGreatDoorA01
import Derived.Laws.BitsAllLaws
import Derived.Laws.IdiomStrings
set_option maxRecDepth 100000
set_option maxHeartbeats 4000000
set_option linter.all false
namespace Go.Proofs.YtlfjdjndhcmliaaGreatDoor
open Go.RowKit Go.Sort
def parC (first:Int) (at_ wide k:Nat) (row:Int) (par:Bool):Col:=⟨first+((at_+k) % wide:Nat),16+((at_+k) / wide:Nat),par,row⟩
def parL (first:Int) (at_ wide:Nat):Nat->List Col
 | 0=>[]
 | i+1 =>
  let l:=parL first at_ wide i
  let l1:=if (i:Int) % ((wide:Int) - 1)=0 then l++[parC first at_ wide l.length ((i:Int) / ((wide:Int) - 1)) true] else l
  l1++[parC first at_ wide l1.length ((i:Int) / ((wide:Int) - 1)) false]
theorem parL_le (first:Int) (at_ wide:Nat):∀ i,(parL first at_ wide i).length<=2*i
 | 0=>Nat.le_refl _
 | i+1=>by
  have:=parL_le first at_ wide i
  simp only [parL]
  split <;> simp <;> omega
theorem ownsRow_lower {W:World} {B B':Nat} {e:TypeId} {sz:Nat} {v:Value} {n:Nat} {xs:List Value} (h:W.ownsRow B e sz v n xs) (hB:B'<=B):W.ownsRow B' e sz v n xs:=by
 refine ⟨h.1,?_⟩
 rcases h.2 with hn | ⟨g,cap,cur,rfl,hb,hg,hrest⟩
 ·exact .inl hn
 ·exact .inr ⟨g,cap,cur,rfl,Nat.le_trans hB hb,hg,hrest⟩
def flatL (l:List Col):List Value:=(l.map Col.cl).flatten
theorem flatL_snoc (l:List Col) (c:Col):flatL (l++[c])=flatL l++c.cl:=by simp [flatL]
theorem OwnS.set {e:TypeId} {z:Nat} {ad:Option Addr} {n cap:Nat} {xs:List Value} {W1:World} {g:Gr} (h:OwnS e z ad n cap xs (gr W1 g) W1) (b k:Nat) (v:Value) [o:Old b W1]:OwnS e z ad n cap xs (gr (W1.setCell ⟨b,k,none⟩ v) g) (W1.setCell ⟨b,k,none⟩ v):=by
 refine ⟨?_,_,rfl⟩
 rw [<-setCell_gr,World.size_setCell]
 exact ownsRow_setCell_below h.own o.h v
set_option maxRecDepth 512 in
theorem add_at (W W1:World) (bA bO bF bW:Nat) (at_ wide:Nat) (first:Int) [oA:Old bA W1] [oO:Old bO W1] [oF:Old bF W1] [oW:Old bW W1] (ad:Option Addr) (n cap:Nat)
  (hA:W1.cell? ⟨bA,0,none⟩=some (.int .i64 at_)) (hO:W1.cell? ⟨bO,0,none⟩=some (.slice ad n cap)) (hF:W1.cell? ⟨bF,0,none⟩=some (.int .i64 first)) (hW:W1.cell? ⟨bW,0,none⟩=some (.int .i64 wide))
  (hz:W1.frozen? ⟨bO,0,none⟩=false) (l:List Col) (hl:l.length=n) (hn:n<=100) (hat:at_<=40000) (hw:3<=wide/\wide<=8) (hf:0<=first/\first<=100) (ho:OwnS 370 4 ad n cap (flatL l) W W1) (row:Int) (par:Bool) :
  Calls Tryz.prog 269 #[.int .i64 row,.bool par,.pointer (some ⟨bA,0,none⟩),.pointer (some ⟨bO,0,none⟩),.pointer (some ⟨bF,0,none⟩),.pointer (some ⟨bW,0,none⟩)] W λ e w'=>e=.returned (.tuple #[]) /\
   ∃ ad' cap' g',w'=gr (W1.setCell ⟨bO,0,none⟩ (.slice ad' (n+1) cap')) g'/\OwnS 370 4 ad' (n+1) cap' (flatL (l++[parC first at_ wide n row par])) w' (W1.setCell ⟨bO,0,none⟩ (.slice ad' (n+1) cap')):=by
 obtain ⟨hw0,hw1⟩:=hw
 obtain ⟨hf0,hf1⟩:=hf
 subst hl
 obtain ⟨g0,hg⟩:=ho.grw
 have hA':W.cell? ⟨bA,0,none⟩=some (.int .i64 at_):=by rw [hg,cell_gr,hA]
 have hO':W.cell? ⟨bO,0,none⟩=some (.slice ad l.length cap):=by rw [hg,cell_gr,hO]
 have hF':W.cell? ⟨bF,0,none⟩=some (.int .i64 first):=by rw [hg,cell_gr,hF]
 have hW':W.cell? ⟨bW,0,none⟩=some (.int .i64 wide):=by rw [hg,cell_gr,hW]
 haveI:Old bA W:=by rw [hg];infer_instance
 haveI:Old bO W:=by rw [hg];infer_instance
 haveI:Old bF W:=by rw [hg];infer_instance
 haveI:Old bW W:=by rw [hg];infer_instance
 clear hg
 have q1:0<=((at_:Int)+l.length) % wide/\((at_:Int)+l.length) % wide < wide:=⟨Int.emod_nonneg _ (by omega),Int.emod_lt_of_pos _ (by omega)⟩
 have q2:0<=((at_:Int)+l.length) / wide/\((at_:Int)+l.length) / wide<=(at_:Int)+l.length:=⟨Int.ediv_nonneg (by omega) (by omega),Int.ediv_le_self _ (by omega)⟩
 go_enter Tryz.func269,Tryz.ntmps269
 go_wp2_with fail
 (first | (with_reducible refine pl2 (.q [0,1,2,3,4,5,6,7,8,9,10,11,12] (.g 13 (.x [14,15] .d))) ?_) | refine pl1 (.q [0,1,2,3,4,5,6,7,8,9,10,11,12] (.g 13 (.x [14,15] .d))) ?_);simp only [Plan.run,pick,gZ,gS,gA,gN]
 (repeat go_big_quiet_step (exact qZ));refine nZ ?_;rintro _ ⟨g,rfl⟩
 go_wp2_with fail
 refine ⟨⟨_,gr_alloc _ _ _⟩,?_⟩
 rintro _ ⟨g2,rfl⟩
 go_wp2_with (at_builtin;(with_reducible apply wpList_app1);(·exact rfl);(·exact rfl);(·exact ii);(·exact ii);(·exact ii);(·exact rfl);(·decide);(·omega);intro gA capA gW hOwn)
 rintro _ ⟨g3,rfl⟩
 go_wp2_with fail
 go_end0
 refine ⟨rfl,_,capA,_,by rw [gr_gr],?_⟩
 rw [flatL_snoc]
 haveI:=hOwn.set bO 0 (.slice (some ⟨gA,0,none⟩) (l.length+1) capA)
 have e:(parC first at_ wide l.length row par).cl=[.int .i64 (first+((at_:Int)+l.length) % wide),.int .i64 (16+((at_:Int)+l.length) / wide),.bool par,.int .i64 row]:=by simp [parC,Col.cl]
 rw [e]
 exact ii
abbrev parW (w:World) (first:Int) (wide at_:Nat) (ad:Option Addr) (n cap:Nat):World :=
 (((w.alloc (.cells #[.int .i64 first] 3)).alloc (.cells #[.int .i64 wide] 3)).alloc (.cells #[.int .i64 at_] 3)).alloc (.cells #[.slice ad n cap] 328)
theorem add_in (w wr:World) (first:Int) (wide at_:Nat) (ad:Option Addr) (cap:Nat) (n:Nat) (l:List Col) (hl:l.length=n) (hn:n<=100) (hat:at_<=40000) (hw:3<=wide/\wide<=8) (hf:0<=first/\first<=100)
  (ho:OwnS 370 4 ad n cap (flatL l) wr (parW w first wide at_ ad n cap)) (row:Int) (par:Bool) :
  Calls Tryz.prog 269 #[.int .i64 row,.bool par,.pointer (some ⟨w.heap.size+1+1,0,none⟩),.pointer (some ⟨w.heap.size+1+1+1,0,none⟩),.pointer (some ⟨w.heap.size,0,none⟩),.pointer (some ⟨w.heap.size+1,0,none⟩)] wr λ e w'=>e=.returned (.tuple #[]) /\
   ∃ ad' cap' g',w'=gr (parW w first wide at_ ad' (n+1) cap') g'/\OwnS 370 4 ad' (n+1) cap' (flatL (l++[parC first at_ wide n row par])) w' (parW w first wide at_ ad' (n+1) cap'):=by
 refine (add_at wr _ _ _ _ _ at_ wide first ad n cap (by simp [go_sem]) (by simp [go_sem]) (by simp [go_sem]) (by simp [go_sem]) (by simp [go_sem]) l hl hn hat hw hf ho row par).mono ?_
 rintro e w' ⟨rfl,ad',cap',g',rfl,h⟩
 have e1:((((w.alloc (.cells #[.int .i64 first] 3)).alloc (.cells #[.int .i64 wide] 3)).alloc (.cells #[.int .i64 at_] 3)).alloc (.cells #[.slice ad n cap] 328)).setCell ⟨w.heap.size+1+1+1,0,none⟩ (.slice ad' (n+1) cap')=parW w first wide at_ ad' (n+1) cap':=by simp [go_sem,parW]
 rw [e1] at h ⊢
 exact ⟨rfl,ad',cap',g',rfl,h⟩
set_option maxRecDepth 512 in
theorem parity_at (first:Int) (at_ wide size:Nat) (hw:3<=wide/\wide<=8) (hs:size<=4) (hf:0<=first/\first<=100) (ha:at_<=40000) (w:World) :
  Calls Tryz.prog 258 #[.int .i64 first,.int .i64 wide,.int .i64 at_,.int .i64 size] w λ e w'=>∃ ad cap,e=.returned (.slice ad (parL first at_ wide size).length cap)/\OwnS 370 4 ad (parL first at_ wide size).length cap (flatL (parL first at_ wide size)) w' w:=by
 have HW:=Lib.hid hw
 have HF:=Lib.hid hf
 have hw0:=hw.1
 have hw1:=hw.2
 clear hw hf
 go_enter Tryz.func258,Tryz.ntmps258
 go_wp2_with fail
 go_loopw [15] (λ i wr=>∃ (j:Nat) (ad:Option Addr) (cap:Nat),j<=size/\i=.int .i64 j/\OwnS 370 4 ad (parL first at_ wide j).length cap (flatL (parL first at_ wide j)) wr (parW w first wide at_ ad (parL first at_ wide j).length cap))
  (λ i _=>size - (intOf i).toNat)
 case atStart=>exact ⟨0,none,0,Nat.zero_le _,rfl,OwnS.nil _ _ _⟩
 case round =>
  obtain ⟨j,ad,cap,hj,rfl,ho⟩:=hrel
  obtain ⟨g,rfl⟩:=ho.grw
  by_cases hlt:j < size
  ·have hl:=parL_le first at_ wide j
   have q1:0<=(j:Int) / ((wide:Int) - 1)/\(j:Int) / ((wide:Int) - 1)<=j:=⟨Int.ediv_nonneg (by omega) (by omega),Int.ediv_le_self _ (by omega)⟩
   have q2:0<=(j:Int) % ((wide:Int) - 1)/\(j:Int) % ((wide:Int) - 1) < (wide:Int) - 1:=⟨Int.emod_nonneg _ (by omega),Int.emod_lt_of_pos _ (by omega)⟩
   by_cases h0:(j:Int) % ((wide:Int) - 1)=0
   ·go_wp2_with fail
    refine (add_in w _ first wide at_ ad cap _ _ rfl (by omega) ha HW.out HF.out ho _ true).mono ?_
    rintro e w' ⟨rfl,ad1,cap1,g1,rfl,ho1⟩
    dsimp only
    go_wp2_with fail
    refine (add_in w _ first wide at_ ad1 cap1 _ _ (by simp) (by omega) ha HW.out HF.out ho1 _ false).mono ?_
    rintro e w' ⟨rfl,ad2,cap2,g2,rfl,ho2⟩
    dsimp only
    go_wp2_with fail
    refine ⟨⟨j+1,ad2,cap2,hlt,by go_num,?_⟩,by simp [intOf];omega⟩
    have e:parL first at_ wide (j+1)=parL first at_ wide j++[parC first at_ wide (parL first at_ wide j).length ((j:Int) / ((wide:Int) - 1)) true]++[parC first at_ wide ((parL first at_ wide j).length+1) ((j:Int) / ((wide:Int) - 1)) false]:=by simp [parL,h0]
    rw [e]
    simp only [List.length_append,List.length_singleton]
    exact ho2
   ·go_wp2_with fail
    refine (add_in w _ first wide at_ ad cap _ _ rfl (by omega) ha HW.out HF.out ho _ false).mono ?_
    rintro e w' ⟨rfl,ad2,cap2,g2,rfl,ho2⟩
    dsimp only
    go_wp2_with fail
    refine ⟨⟨j+1,ad2,cap2,hlt,by go_num,?_⟩,by simp [intOf];omega⟩
    have e:parL first at_ wide (j+1)=parL first at_ wide j++[parC first at_ wide (parL first at_ wide j).length ((j:Int) / ((wide:Int) - 1)) false]:=by simp [parL,h0]
    rw [e]
    simp only [List.length_append,List.length_singleton]
    exact ho2
  ·obtain rfl:size=j:=by omega
   go_wp2_with fail
   go_ret
   refine ⟨ad,cap,rfl,?_,?_⟩
   ·exact ownsRow_lower ho.own (by simp;omega)
   ·exact gr_of_below grown
section
variable (s:Slc) (secs grp at_ size:Int) [k:Geo s secs]
theorem secI_bd:0<=secI s secs grp/\secI s secs grp<=40000:=by
 have h3:=k.h.2.2.1
 have h4:=k.h.2.2.2.1
 unfold secI
 split
 ·rename_i h
  have hw:=wide_of k.h (k:=grp.toNat) (by omega)
  unfold secsOf
  split
  ·constructor
   ·exact Int.mul_nonneg (by omega) (by omega)
   ·have:=Int.mul_le_mul (show secs - 16<=4080 by omega) (show s.y grp.toNat<=8 by omega) (by omega) (by omega)
    omega
  ·omega
 ·omega
include k in
theorem takI_bd:0<=takI s grp size/\takI s grp size<=50:=by
 unfold takI
 split
 ·rename_i h
  have hw:=wide_of k.h (k:=grp.toNat) (by omega)
  unfold takeOf
  split
  ·omega
  ·have q0:0<=(size+s.y grp.toNat - 2) / (s.y grp.toNat - 1):=Int.ediv_nonneg (by omega) (by omega)
   have q1:(size+s.y grp.toNat - 2) / (s.y grp.toNat - 1)<=size+s.y grp.toNat - 2:=Int.ediv_le_self _ (by omega)
   omega
 ·omega
def mayB:Bool:=decide (0 < takI s grp size) && (decide (0<=at_) && decide (at_<=secI s secs grp - takI s grp size))
set_option maxRecDepth 512 in
instance may_fn (w:World) [m:GM s w]:Fn 255 #[.agg #[.slice s.ad s.len s.cap,.int .i64 secs],.agg #[.int .i64 grp,.int .i64 at_],.int .i64 size] w (.bool (mayB s secs grp at_ size)):=by
 refine ⟨?_⟩
 have b0:=secI_bd s secs grp
 have b1:=takI_bd s secs grp size
 unfold mayB
 by_cases h0:0 < takI s grp size
 ·rw [decide_eq_true h0]
  by_cases h1:0<=at_
  all_goals
   first | rw [decide_eq_true h1] | (have h1:=decide_eq_false h1;rw [h1])
   go_enter Tryz.func255,Tryz.ntmps255
   go_wp2_with (with_reducible refine Fn.go λ g=>?_)
   (first | (with_reducible refine pl2 (.q [0,1,2,3,4,5,6,7,8,9,10,11,12,13,14,15,16,17,18] .d) ?_) | refine pl1 (.q [0,1,2,3,4,5,6,7,8,9,10,11,12,13,14,15,16,17,18] .d) ?_);simp only [Plan.run,pick,gZ,gS,gA,gN]
   (repeat go_big_quiet_step (exact qZ));refine nZ ?_;rintro _ ⟨g,rfl⟩
   go_wp2_with fail
   go_ret
   exact Ret.mk rfl grown
 ·have h0:=decide_eq_false h0
  rw [h0]
  go_enter Tryz.func255,Tryz.ntmps255
  go_wp2_with (with_reducible refine Fn.go λ g=>?_)
  (first | (with_reducible refine pl2 (.q [0,1,2,3,4,5,6,7,8,9,10,11,12,13,14,15,16,17,18] .d) ?_) | refine pl1 (.q [0,1,2,3,4,5,6,7,8,9,10,11,12,13,14,15,16,17,18] .d) ?_);simp only [Plan.run,pick,gZ,gS,gA,gN]
  (repeat go_big_quiet_step (exact qZ));refine nZ ?_;rintro _ ⟨g,rfl⟩
  go_wp2_with fail
  go_ret
  exact Ret.mk rfl grown
end
theorem OwnS.lower {e:TypeId} {z:Nat} {ad:Option Addr} {n cap:Nat} {xs:List Value} {W W1 W0:World} (h:OwnS e z ad n cap xs W W1) (hb:∃ g,W1=gr W0 g):OwnS e z ad n cap xs W W0:=by
 obtain ⟨g,rfl⟩:=hb
 obtain ⟨g',hg⟩:=h.grw
 exact ⟨ownsRow_lower h.own (by rw [gr_size];omega),_,by rw [hg,gr_gr]⟩
def colL (s:Slc) (grp at_ size:Int):List Col :=
 if s.x grp.toNat=0 then (List.range ((s.y grp.toNat).toNat*size.toNat)).map (mirC (sumW s grp.toNat) at_ size.toNat) else parL (sumW s grp.toNat) at_.toNat (s.y grp.toNat).toNat size.toNat
theorem may_in {s:Slc} {secs grp at_ size:Int} [k:Geo s secs] (h:mayB s secs grp at_ size=true):(0<=grp/\grp < s.len)/\(1<=size/\size<=4)/\0<=at_/\at_<=40000:=by
 have b0:=secI_bd s secs grp
 have b1:=takI_bd s secs grp size
 simp only [mayB,Bool.and_eq_true,decide_eq_true_eq] at h
 obtain ⟨h1,h2,h3⟩:=h
 have h4:0<=grp/\grp < s.len/\1<=size/\size<=4:=by
  false_or_by_contra
  rename_i hh
  rw [takI,if_neg hh] at h1
  omega
 exact ⟨⟨h4.1,h4.2.1⟩,h4.2.2,h2,by omega⟩
set_option maxRecDepth 512 in
theorem of_at (s:Slc) (secs grp at_ size:Int) [k:Geo s secs] (w:World) [m:GM s w] :
  Calls Tryz.prog 227 #[.agg #[.slice s.ad s.len s.cap,.int .i64 secs],.agg #[.int .i64 grp,.int .i64 at_],.int .i64 size] w λ e w' =>
   (mayB s secs grp at_ size=true->∃ ad cap,e=.returned (.tuple #[.slice ad (colL s grp at_ size).length cap,.int .i64 0])/\OwnS 370 4 ad (colL s grp at_ size).length cap (flatL (colL s grp at_ size)) w' w) /\
   (mayB s secs grp at_ size=false->e=.returned (.tuple #[.slice none 0 0,.int .i64 1])/\∃ g,w'=gr w g):=by
 by_cases hm:mayB s secs grp at_ size=true
 ·obtain ⟨⟨g0,g1⟩,⟨z0,z1⟩,a0,a1⟩:=may_in hm
  obtain ⟨n,rfl⟩:=Int.eq_ofNat_of_zero_le g0
  have hn:n < s.len:=by omega
  have hw:=wide_of k.h hn
  have hs:=sumW_le k.h n (by omega)
  have hlen:=k.h.2.1
  have hcx:=m.c0 n hn
  have hcy:=m.c1 n hn
  have hix:=ix_grp m hn
  haveI hbo:=m.isOld hn
  obtain ⟨wd,hwd⟩:=Int.eq_ofNat_of_zero_le (show 0<=s.y n by omega)
  obtain ⟨z,rfl⟩:=Int.eq_ofNat_of_zero_le (show 0<=size by omega)
  obtain ⟨t,rfl⟩:=Int.eq_ofNat_of_zero_le a0
  have hfi:firI s n=sumW s n:=by unfold firI;rw [if_pos (by omega)];rfl
  rw [hwd] at hcy
  rcases hw.2.2 with hx | ⟨hx,h3w⟩
  ·have hc:colL s (n:Int) (t:Int) (z:Int)=(List.range (wd*z)).map (mirC (sumW s n) t z):=by
    unfold colL
    simp [hx,hwd]
   rw [hx] at hcx
   have HM:=λ w=>mirror_at (sumW s n) t wd z (by omega) (by omega) (by omega) (by omega) w
   go_enter Tryz.func227,Tryz.ntmps227
   go_wp2_with (with_reducible refine Fn.go λ g=>?_)
   (first | (with_reducible refine pl2 (.q [0,1,2,3,4,5,6,7,8] (.c 9 (.g 10 (.x [11] (.q [12] .d))))) ?_) | refine pl1 (.q [0,1,2,3,4,5,6,7,8] (.c 9 (.g 10 (.x [11] (.q [12] .d))))) ?_);simp only [Plan.run,pick,gZ,gS,gA,gN]
   (repeat go_big_quiet_step (exact qZ));refine nZ ?_
   (with_reducible apply cNode);(·kernel_rfl);(·rintro _ ⟨gC,rfl⟩;simp [Act.eval];exact inferInstance)
   rintro _ ⟨g1,rfl⟩
   rw [hfi]
   go_wp2_with fail
   refine ⟨⟨_,gr_alloc _ _ _⟩,?_⟩
   rintro _ ⟨g2,rfl⟩
   go_wp2_with fail
   dsimp only [Nx]
   (repeat go_big_quiet_step (exact qZ));refine nZ ?_
   rintro _ ⟨g3,rfl⟩
   go_wp2_with fail
   refine (HM _).mono ?_
   rintro e w' ⟨ad,cap,rfl,ho⟩
   obtain ⟨g4,rfl⟩:=ho.grw
   dsimp only
   go_wp2_with fail
   go_ret2
   refine ⟨λ _=>⟨ad,cap,by rw [hc];simp,?_⟩,λ h=>absurd (hm.symm.trans h) (by simp)⟩
   rw [hc]
   have ho:=ho.lower (W0:=w) (gr_of_below grown)
   simpa [flatC,flatL,List.map_map,Function.comp_def] using ho
  ·have hc:colL s (n:Int) (t:Int) (z:Int)=parL (sumW s n) t wd z:=by
    unfold colL
    simp [hx,hwd]
   rw [hx] at hcx
   have HM:=λ w=>parity_at (sumW s n) t wd z (by omega) (by omega) (by omega) (by omega) w
   go_enter Tryz.func227,Tryz.ntmps227
   go_wp2_with (with_reducible refine Fn.go λ g=>?_)
   (first | (with_reducible refine pl2 (.q [0,1,2,3,4,5,6,7,8] (.c 9 (.g 10 (.x [11] (.q [12] .d))))) ?_) | refine pl1 (.q [0,1,2,3,4,5,6,7,8] (.c 9 (.g 10 (.x [11] (.q [12] .d))))) ?_);simp only [Plan.run,pick,gZ,gS,gA,gN]
   (repeat go_big_quiet_step (exact qZ));refine nZ ?_
   (with_reducible apply cNode);(·kernel_rfl);(·rintro _ ⟨gC,rfl⟩;simp [Act.eval];exact inferInstance)
   rintro _ ⟨g1,rfl⟩
   rw [hfi]
   go_wp2_with fail
   refine ⟨⟨_,gr_alloc _ _ _⟩,?_⟩
   rintro _ ⟨g2,rfl⟩
   go_wp2_with fail
   dsimp only [Nx]
   (repeat go_big_quiet_step (exact qZ));refine nZ ?_
   rintro _ ⟨g3,rfl⟩
   go_wp2_with fail
   refine (HM _).mono ?_
   rintro e w' ⟨ad,cap,rfl,ho⟩
   obtain ⟨g4,rfl⟩:=ho.grw
   dsimp only
   go_wp2_with fail
   go_ret2
   refine ⟨λ _=>⟨ad,cap,by rw [hc];simp,?_⟩,λ h=>absurd (hm.symm.trans h) (by simp)⟩
   rw [hc]
   have ho:=ho.lower (W0:=w) (gr_of_below grown)
   simpa [flatC,flatL,List.map_map,Function.comp_def] using ho
 ·have hm:mayB s secs grp at_ size=false:=by simpa using hm
  go_enter Tryz.func227,Tryz.ntmps227
  go_wp2_with (with_reducible refine Fn.go λ g=>?_)
  go_ret2
  exact ⟨λ h=>absurd (hm.symm.trans h) (by simp),λ _=>⟨rfl,gr_of_below grown⟩⟩
class ElZ (ts:TypeId) (e:outParam TypeId) (v:outParam Value):Prop where
 sl:Tryz.prog.underlying ts=some (.slice e)
 el:∃ i,Tryz.prog.info? e=some i/\i.zero=some v/\i.size=1/\i.bytes<=1000
 one:v.cells=#[v]
theorem elZ_of {ts e:TypeId} {v:Value} {b:Nat} (h1:Tryz.prog.underlying ts=some (.slice e)) (h2:(Tryz.prog.info? e).map (λ i=>(i.zero,i.size,i.bytes))=some (some v,1,b)) (h3:b<=1000) (h4:v.cells=#[v]):ElZ ts e v:=by
 refine ⟨h1,?_,h4⟩
 cases hi:Tryz.prog.info? e with
 | none=>rw [hi] at h2;cases h2
 | some i =>
  rw [hi] at h2
  simp only [Option.map_some,Option.some.injEq,Prod.mk.injEq] at h2
  exact ⟨i,rfl,h2.1,h2.2.1,by omega⟩
instance elZ8:ElZ 99 5 (.int .u8 0):=elZ_of Tryz.underlying99 (b:=1) (by kernel_rfl) (by omega) rfl
instance elZS:ElZ 101 9 (.string ⟨#[]⟩):=elZ_of Tryz.underlying101 (b:=16) (by kernel_rfl) (by omega) rfl
instance elT8:ElT 99 5 1 1:=elT_of Tryz.underlying99 (by kernel_rfl) (by omega)
instance elTS:ElT 101 9 1 16:=elT_of Tryz.underlying101 (by kernel_rfl) (by omega)
instance elTI:ElT 36 3 1 8:=elT_of Tryz.underlying36 (by kernel_rfl) (by omega)
section
variable {ops:Array Oper} {rest:List Oper} {Q:Exit->Act->World->Prop} {a:Act} {w:World} {d:Option Tmp} {ty:TypeId} {pos:String} {aft:Array Edge}
theorem wpList_make1 {ts e:TypeId} {v:Value} [k:ElZ ts e v] {x y:Operand} {kl kc:IntKind} {n:Nat} (hx:a.eval x=.int kl (n:Int)) (hy:a.eval y=.int kc (n:Int)) (hn:n<=1000000)
  (h:∀ g,OwnS e 1 (some ⟨w.heap.size,0,none⟩) n n (List.replicate n v) (gr w g) w->wpList Tryz.prog ops Q rest (a.put d (.slice (some ⟨w.heap.size,0,none⟩) n n)) (gr w g)) :
  wpList Tryz.prog ops Q ({ dst:=d,op:=.makeSlice ts x y,type:=ty,pos:=pos,after:=aft,guard:=none }::rest) a w:=by
 obtain ⟨i,hi,hz,hs,hb⟩:=ElZ.el (ts:=ts) (e:=e) (v:=v)
 refine wpList_make_full w rfl x y ts rfl w.heap.size e i v 1 (ElZ.sl (v:=v)) hi hz hs kl kc _ _ n hx hy rfl rfl (by have:=Nat.mul_le_mul hb hn;omega) (by unfold maxLen;omega) (Nat.le_refl _) ?_
 intro w' ho hg
 obtain ⟨g,rfl⟩:=gr_of_below (Below.grown (Below.refl w.heap.size w) hg (Nat.le_refl _) (λ k hk=>by cases hk))
 rw [ElZ.one (ts:=ts) (e:=e) (v:=v),Nat.mul_one,toList_madeCells_one] at ho
 exact h g ⟨ho,g,rfl⟩
end
theorem OwnS.put {e:TypeId} {g n cap:Nat} {xs:List Value} {W W1:World} (h:OwnS e 1 (some ⟨g,0,none⟩) n cap xs W W1) (k:Nat) (v:Value):OwnS e 1 (some ⟨g,0,none⟩) n cap (xs.set k v) (W.setCell ⟨g,k,none⟩ v) W1:=by
 obtain ⟨g',hg⟩:=h.grw
 have hb:=(h.own.lt g rfl).1
 refine ⟨(h.own.stored k v).1,gr_of_below ?_⟩
 exact Below.setCell (by rw [hg];exact below_gr _ _) hb v
theorem OwnS.facts {e:TypeId} {g n cap:Nat} {xs:List Value} {W W1:World} (h:OwnS e 1 (some ⟨g,0,none⟩) n cap xs W W1):(∀ (k:Nat) (v:Value),xs[k]?=some v->W.cell? ⟨g,k,none⟩=some v)/\(∀ k:Nat,W.frozen? ⟨g,k,none⟩=false)/\Old g W:=by
 refine ⟨λ k v hk=>?_,λ k=>h.own.frozenAt k,⟨(h.own.lt g rfl).2⟩⟩
 have hl:=h.own.1
 rw [h.own.cellAt k (by have:=(List.getElem?_eq_some_iff.1 hk).1;omega)]
 exact hk
def byV (l:List UInt8):List Value:=l.map λ b=>.int .u8 b.toNat
def strC (l:List ByteArray):List (List Value):=l.map λ s=>[.string s]
def xorL (a b:List UInt8):List UInt8:=List.zipWith (·^^^ ·) a b
def oneL (m:Nat) (l:List ByteArray):List UInt8:=l.foldl (λ a s=>xorL a s.data.toList) (List.replicate m 0)
theorem xor_u8 (x y:UInt8):bits .xor .u8 (x.toNat:Int) (y.toNat:Int)=((x ^^^ y).toNat:Int):=by
 rw [u8_xor_nat _ _ x.toNat_lt y.toNat_lt,UInt8.toNat_xor]
theorem oneL_len (m:Nat):∀ (l:List ByteArray),(∀ s∈l,s.size=m)->(oneL m l).length=m:=by
 have key:∀ (l:List ByteArray) (a:List UInt8),a.length=m->(∀ s∈l,s.size=m)->(l.foldl (λ a s=>xorL a s.data.toList) a).length=m:=by
  intro l
  induction l with
  | nil=>exact λ a h _=>h
  | cons s l ih =>
   intro a ha hl
   refine ih _ ?_ λ s hs=>hl s (by simp [hs])
   have:=hl s (by simp)
   rw [<-size_list] at this
   simp [xorL,ha,this]
 exact λ l hl=>key l _ (by simp) hl
def pX (a s:List UInt8) (i:Nat):List UInt8:=(xorL a s).take i++a.drop i
theorem pX_take (a s:List UInt8) (k:Nat) (ha:k<=a.length) (hs:k<=s.length):((xorL a s).take k).length=k:=by simp [xorL];omega
theorem pX_get (a s:List UInt8) (k:Nat) (ha:k < a.length) (hs:k < s.length):(byV (pX a s k))[k]?=some (.int .u8 (a[k]).toNat):=by
 have e2:=pX_take a s k (by omega) (by omega)
 unfold byV pX
 rw [List.getElem?_map,List.getElem?_append_right (by omega),e2,Nat.sub_self,List.drop_eq_getElem_cons ha]
 rfl
theorem pX_step (a s:List UInt8) (k:Nat) (ha:k < a.length) (hs:k < s.length):(byV (pX a s k)).set k (.int .u8 ((a[k] ^^^ s[k]).toNat))=byV (pX a s (k+1)):=by
 have e2:=pX_take a s k (by omega) (by omega)
 have hz:k < (xorL a s).length:=by simp [xorL];omega
 have e1:(xorL a s).take (k+1)=(xorL a s).take k++[a[k] ^^^ s[k]]:=by rw [List.take_succ_eq_append_getElem hz];simp [xorL]
 unfold byV pX
 rw [<-List.map_set (f:=λ b:UInt8=>Value.int .u8 (b.toNat:Int)),e1,List.set_append_right _ _ (by omega),e2,Nat.sub_self,List.drop_eq_getElem_cons ha,List.set_cons_zero]
 simp
theorem pX_all (a s:List UInt8) (h:s.length=a.length):pX a s a.length=xorL a s:=by
 unfold pX
 rw [List.drop_length,List.append_nil,List.take_of_length_le (by simp [xorL];omega)]
theorem oneL_succ (m:Nat) (L:List ByteArray) (j:Nat) (t:ByteArray) (h:L[j]?=some t):oneL m (L.take (j+1))=xorL (oneL m (L.take j)) t.data.toList:=by
 unfold oneL
 rw [List.take_add_one,h]
 simp
theorem one_at (ad:Option Addr) (n cap:Nat) (l:List ByteArray) (W:World) [h:RdS 1 ad n cap (strC l) W] (m:Nat) (hm:m<=65536) (h0:0 < n) (hn:n<=1000) (hl:∀ s∈l,s.size=m) :
  Fn 347 #[.slice ad n cap] W (.string ⟨(oneL m l).toArray⟩):=by
 refine ⟨?_⟩
 have hlen:l.length=n:=by have:=h.len;simpa [strC] using this
 obtain ⟨s0,l',rfl⟩:∃ s0 l',l=s0::l':=by
  cases l with
  | nil=>simp at hlen;omega
  | cons a b=>exact ⟨a,b,rfl⟩
 have hs0:=hl s0 (by simp)
 obtain ⟨b,o,rfl,hbo,hc⟩:=h.cells 0 [.string s0] rfl
 have c0:W.cell? ⟨b,o,none⟩=some (.string s0):=by have:=hc 0 _ rfl;simpa using this
 clear hc
 generalize hL:s0::l'=L at *
 go_enter Tryz.func347,Tryz.ntmps347
 go_wp2_with ((with_reducible apply wpList_make1);(·exact rfl);(·exact rfl);(·omega);intro gM hMk)
 go_loopw [14] (λ i wr=>∃ j:Nat,j<=n/\i=.int .i64 j/\OwnS 5 1 (some ⟨W.heap.size,0,none⟩) m m (byV (oneL m (L.take j))) wr W)
  (λ i _=>n - (intOf i).toNat)
 case atStart=>exact ⟨0,Nat.zero_le _,rfl,by simpa [byV,oneL] using hMk⟩
 case round =>
  clear hMk
  obtain ⟨j,hj,rfl,ho⟩:=hrel
  obtain ⟨g,rfl⟩:=ho.grw
  by_cases hlt:j < n
  ·obtain ⟨t,ht⟩:∃ t,L[j]?=some t:=⟨_,List.getElem?_eq_getElem (by omega)⟩
   obtain ⟨b',o',hbb,hb',hc⟩:=h.cells j [.string t] (by simp [strC,ht])
   cases hbb
   have ct:W.cell? ⟨b,o+j,none⟩=some (.string t):=by have:=hc 0 _ rfl;simpa using this
   have htl:=hl t (List.mem_of_getElem? ht)
   have hal:(oneL m (L.take j)).length=m:=oneL_len m _ λ s hs=>hl s (List.mem_of_mem_take hs)
   go_wp2_with fail
   go_loopw [20] (λ i wr=>∃ k:Nat,k<=m/\i=.int .i64 k/\OwnS 5 1 (some ⟨W.heap.size,0,none⟩) m m (byV (pX (oneL m (L.take j)) t.data.toList k)) wr W)
    (λ i _=>m - (intOf i).toNat)
   case atStart=>exact ⟨0,Nat.zero_le _,rfl,by simpa [pX] using ho⟩
   case round =>
    clear ho
    obtain ⟨k,hk,rfl,ho⟩:=hrel
    obtain ⟨g,rfl⟩:=ho.grw
    obtain ⟨f1,f2,f3⟩:=ho.facts
    by_cases hlk:k < m
    ·have hka:k < (oneL m (L.take j)).length:=by omega
     have hks:k < t.data.toList.length:=by rw [size_list];omega
     have hb0:=f1 k _ (pX_get _ _ k hka hks)
     have hf0:=f2 k
     have hlk':k < t.size:=by omega
     clear f1 f2
     generalize hV:gr W g=V at *
     go_wp2_with fail
     (first | (with_reducible refine pl2 (.q [0,1,2,3,4,5,6,7,8] (.x [9] .d)) ?_) | refine pl1 (.q [0,1,2,3,4,5,6,7,8] (.x [9] .d)) ?_);simp only [Plan.run,pick,gZ,gS,gA,gN]
     (repeat go_big_quiet_step (exact qZ));refine nZ ?_
     rintro _ ⟨g1,rfl⟩
     go_wp2_with fail
     rintro _ ⟨g2,rfl⟩
     go_wp2_with fail
     refine ⟨⟨k+1,hlk,by go_num,?_⟩,by simp [intOf];omega⟩
     have e:(t[k]'hlk')=t.data.toList[k]:=by simp [ByteArray.getElem_eq_getElem_data]
     rw [e,xor_u8,<- pX_step _ _ k hka hks]
     haveI:=ho.put k (.int .u8 (((oneL m (L.take j))[k] ^^^ t.data.toList[k]).toNat))
     exact ii
    ·obtain rfl:m=k:=by omega
     clear f1 f2 f3
     go_wp2_with fail
     refine ⟨⟨j+1,hlt,by go_num,?_⟩,by simp [intOf];omega⟩
     rw [oneL_succ _ _ _ _ ht,<- pX_all _ _ (by rw [size_list,hal,htl]),hal]
     exact ho
  ·obtain rfl:n=j:=by omega
   have hconv:(convert 99 9 (.slice (some ⟨W.heap.size,0,none⟩) m m)).run Tryz.prog (gr W g)=.ok (.string ⟨(oneL m L).toArray⟩) (gr W g):=by
    obtain ⟨f1,_,_⟩:=ho.facts
    have hal:=oneL_len m L hl
    rw [List.take_of_length_le (by omega)] at f1
    have:=run_convert_bytes_back (P:=Tryz.prog) (gr W g) 99 9 5 ⟨W.heap.size,0,none⟩ m (oneL m L) Tryz.underlying99 Tryz.underlying5 Tryz.underlying9 λ i hi=>by
     have e:(⟨W.heap.size,0,none⟩:Addr).add i=⟨W.heap.size,i,none⟩:=by unfold Addr.add;split <;> simp_all
     rw [e]
     exact f1 i _ (by rw [byV,List.getElem?_map,List.getElem?_eq_getElem hi];rfl)
    rwa [hal] at this
   go_wp2_with fail
   go_ret
   exact ⟨rfl,below_gr _ _⟩
end Go.Proofs.YtlfjdjndhcmliaaGreatDoor
namespace Go.Proofs.YtlfjdjndhcmliaaGreatDoor
def evenB (l:List ByteArray):Bool:=l.all λ s=>s.size == (l.headD ⟨#[]⟩).size
def makeS (l:List ByteArray):ByteArray:=if l.isEmpty || !evenB l then ⟨#[]⟩ else ⟨(oneL (l.headD ⟨#[]⟩).size l).toArray⟩
theorem makeS_size (m:Nat) (l:List ByteArray) (h0:l≠[]) (h:∀ s∈l,s.size=m):(makeS l).size=m:=by
 obtain ⟨a,l',rfl⟩:∃ a l',l=a::l':=by cases l with | nil=>exact absurd rfl h0 | cons a b=>exact ⟨a,b,rfl⟩
 have ha:=h a (by simp)
 have he:evenB (a::l')=true:=by
  unfold evenB
  rw [List.all_eq_true]
  intro s hs
  simp [h s hs,ha]
 have:=oneL_len m _ h
 have e:makeS (a::l')=⟨(oneL a.size (a::l')).toArray⟩:=by
  unfold makeS
  rw [he]
  rfl
 rw [e,ha]
 simpa [ByteArray.size] using this
def cntD (L:List Col) (i:Nat):Nat:=(L.take i).countP λ c=>!c.par
def e1 (L:List Col) (D:List ByteArray) (i:Nat):ByteArray:=match L[i]? with
 | some c=>if c.par then ⟨#[]⟩ else D.getD (cntD L i % D.length) ⟨#[]⟩
 | none=>⟨#[]⟩
def isRow (L:List Col) (no:Int) (i:Nat):Bool:=match L[i]? with
 | some c=>(c.row == no) && !c.par
 | none=>false
def rowI (L:List Col) (no:Int) (n:Nat):List Nat:=(List.range n).filter (isRow L no)
def e2 (L:List Col) (D:List ByteArray) (i:Nat):ByteArray:=match L[i]? with
 | some c=>if c.par then makeS ((rowI L c.row L.length).map (e1 L D)) else e1 L D i
 | none=>⟨#[]⟩
def encL (L:List Col) (D:List ByteArray):List ByteArray:=(List.range L.length).map (e2 L D)
def tab (n:Nat) (f z:Nat->ByteArray) (k:Nat):List ByteArray:=(List.range n).map λ i=>if i < k then f i else z i
theorem tab_get {n:Nat} {f z:Nat->ByteArray} {k i:Nat} (h:i < n):(tab n f z k)[i]?=some (if i < k then f i else z i):=by
 simp [tab,h]
theorem tab_ext {n:Nat} {f z f' z':Nat->ByteArray} {k k':Nat} (h:∀ i,i < n->(if i < k then f i else z i)=(if i < k' then f' i else z' i)):tab n f z k=tab n f' z' k':=by
 unfold tab
 apply List.map_congr_left
 intro i hi
 exact h i (by simpa using hi)
theorem tab_set {n:Nat} {f z:Nat->ByteArray} {k:Nat}:(tab n f z k).set k (f k)=tab n f z (k+1):=by
 apply List.ext_getElem?
 intro i
 rw [List.getElem?_set]
 by_cases hi:i < n
 ·rw [tab_get hi,tab_get hi]
  by_cases hk:k=i
  ·subst hk;simp [tab,hi]
  ·rw [if_neg hk];congr 1;split <;> split <;> first | rfl | omega
 ·have h1:∀ k,(tab n f z k)[i]?=none:=λ k=>by simp [tab];omega
  rw [h1,h1];split
  ·split <;> first | rfl | (rename_i h2;simp [tab] at h2;omega)
  ·rfl
theorem tab_same {n:Nat} {f z:Nat->ByteArray} {k:Nat} (h:k < n->f k=z k):tab n f z (k+1)=tab n f z k:=tab_ext λ i hi=>by
 by_cases hk:i=k
 ·subst hk;simp [h hi]
 ·split <;> split <;> first | rfl | omega
theorem tab_all {n:Nat} {f z:Nat->ByteArray}:tab n f z n=(List.range n).map f:=by
 unfold tab
 exact List.map_congr_left λ i hi=>by rw [if_pos (by simpa using hi)]
theorem tab_zero {n:Nat} {f z:Nat->ByteArray}:tab n f z 0=(List.range n).map z:=by simp [tab]
theorem cntD_succ {L:List Col} {i:Nat} {c:Col} (h:L[i]?=some c):cntD L (i+1)=cntD L i+(if c.par then 0 else 1):=by
 unfold cntD
 rw [List.take_add_one,h]
 cases hp:c.par <;> simp [hp]
theorem cntD_le (L:List Col) (i:Nat):cntD L i<=i:=by
 unfold cntD
 exact Nat.le_trans List.countP_le_length (by simp;omega)
theorem e1_size {L:List Col} {D:List ByteArray} (h0:D≠[]) (hD:∀ s∈D,s.size=64) {i:Nat} {c:Col} (h:L[i]?=some c) (hp:c.par=false):(e1 L D i).size=64:=by
 have:0 < D.length:=List.length_pos_iff.2 h0
 have hm:cntD L i % D.length < D.length:=Nat.mod_lt _ this
 simp only [e1,h,hp]
 rw [List.getD_eq_getElem?_getD,List.getElem?_eq_getElem hm]
 exact hD _ (List.getElem_mem hm)
def RowOk (L:List Col):Prop:=∀ c∈L,c.par=true->∃ d∈L,d.par=false/\d.row=c.row
theorem rowI_mem {L:List Col} {no:Int} {i:Nat}:i∈rowI L no L.length ↔ ∃ c,L[i]?=some c/\c.row=no/\c.par=false:=by
 unfold rowI isRow
 rw [List.mem_filter,List.mem_range]
 constructor
 ·rintro ⟨h1,h2⟩
  rw [List.getElem?_eq_getElem h1] at h2 ⊢
  exact ⟨_,rfl,by simpa using h2⟩
 ·rintro ⟨c,h1,h2,h3⟩
  refine ⟨(List.getElem?_eq_some_iff.1 h1).1,?_⟩
  simp [h1,h2,h3]
theorem enc_size {L:List Col} {D:List ByteArray} (h0:D≠[]) (hD:∀ s∈D,s.size=64) (hr:RowOk L):∀ s∈encL L D,s.size=64:=by
 intro s hs
 obtain ⟨i,hi,rfl⟩:=List.mem_map.1 hs
 have hi:i < L.length:=by simpa using hi
 have hc:=List.getElem?_eq_getElem hi
 unfold e2
 rw [hc]
 dsimp only
 split
 ·rename_i hp
  obtain ⟨d,hd,hd1,hd2⟩:=hr _ (List.getElem_mem hi) hp
  obtain ⟨j,hj⟩:=List.getElem?_of_mem hd
  have hm:j∈rowI L L[i].row L.length:=rowI_mem.2 ⟨d,hj,hd2,hd1⟩
  refine makeS_size 64 _ (λ e=>?_) ?_
  ·have:=List.mem_map_of_mem (f:=e1 L D) hm
   rw [e] at this;cases this
  ·intro s hs
   obtain ⟨k,hk,rfl⟩:=List.mem_map.1 hs
   obtain ⟨c,h1,_,h3⟩:=rowI_mem.1 hk
   exact e1_size h0 hD h1 h3
 ·rename_i hp
  exact e1_size h0 hD hc (by simpa using hp)
theorem enc_len (L:List Col) (D:List ByteArray):(encL L D).length=L.length:=by simp [encL]
theorem enc_get {L:List Col} {D:List ByteArray} {i:Nat} {c:Col} (h:L[i]?=some c) (hp:c.par=false):(encL L D)[i]?=some (D.getD (cntD L i % D.length) ⟨#[]⟩):=by
 have hi:=(List.getElem?_eq_some_iff.1 h).1
 have e:(encL L D)[i]?=some (e2 L D i):=by simp [encL,hi]
 rw [e]
 simp only [e2,h,hp,e1]
 rfl
theorem parL_row (first:Int) (at_ wide:Nat):∀ i,RowOk (parL first at_ wide i)
 | 0=>λ c hc=>by cases hc
 | i+1=>by
  have ih:=parL_row first at_ wide i
  intro c hc hp
  simp only [parL] at hc ⊢
  have key:∀ l1:List Col,∀ x:Col,x.par=false->x.row=(i:Int) / ((wide:Int) - 1)->(∀ c∈l1,c.par=true->(∃ d∈l1,d.par=false/\d.row=c.row)\/c.row=x.row)->c∈l1++[x]->∃ d∈l1++[x],d.par=false/\d.row=c.row:=by
   intro l1 x hx hr h hc
   rcases List.mem_append.1 hc with hc | hc
   ·rcases h c hc hp with ⟨d,h1,h2⟩ | h1
    ·exact ⟨d,by simp [h1],h2⟩
    ·exact ⟨x,by simp,hx,h1.symm⟩
   ·have:c=x:=by simpa using hc
    rw [this,hx] at hp;cases hp
  refine key _ _ rfl rfl ?_ hc
  intro c hc hp
  split at hc
  ·rename_i hm
   rw [if_pos hm]
   rcases List.mem_append.1 hc with hc | hc
   ·obtain ⟨d,h1,h2⟩:=ih c hc hp
    exact .inl ⟨d,by simp [h1],h2⟩
   ·have h2:=List.mem_singleton.1 hc
    exact .inr (by rw [h2];rfl)
  ·rename_i hm
   rw [if_neg hm]
   exact .inl (ih c hc hp)
theorem parL_cnt (first:Int) (at_ wide:Nat):∀ i,(parL first at_ wide i).countP (λ c=>!c.par)=i
 | 0=>rfl
 | i+1=>by
  have ih:=parL_cnt first at_ wide i
  simp only [parL]
  split <;> simp [ih,parC]
theorem sumW_lt {s:Slc} {secs:Int} (h:goodG s secs):∀ (k j:Nat),j < k->k<=s.len->sumW s j+s.y j<=sumW s k
 | 0,_,hj,_=>by omega
 | k+1,j,hj,hk=>by
  have hw:=wide_of h (k:=k) (by omega)
  simp only [sumW]
  by_cases e:j=k
  ·subst e;omega
  ·have:=sumW_lt h k j (by omega) (by omega)
   omega
theorem parL_snoc (first:Int) (at_ wide i:Nat):∃ r0 r1:Int,parL first at_ wide (i+1)=parL first at_ wide i++[parC first at_ wide (parL first at_ wide i).length r0 false] \/
  parL first at_ wide (i+1)=parL first at_ wide i++[parC first at_ wide (parL first at_ wide i).length r0 true,parC first at_ wide ((parL first at_ wide i).length+1) r1 false]:=by
 refine ⟨(i:Int) / ((wide:Int) - 1),(i:Int) / ((wide:Int) - 1),?_⟩
 simp only [parL]
 split <;> simp
theorem parL_get (first:Int) (at_ wide:Nat):∀ (i k:Nat) (c:Col),(parL first at_ wide i)[k]?=some c->c.dev=first+((at_+k) % wide:Nat)/\c.at_=16+((at_+k) / wide:Nat)
 | 0,k,c,e=>by simp [parL] at e
 | i+1,k,c,e=>by
  obtain ⟨r0,r1,e2 | e2⟩:=parL_snoc first at_ wide i
  ·rw [e2] at e
   rw [List.getElem?_append] at e
   split at e
   ·exact parL_get first at_ wide i k c e
   ·obtain ⟨h1,h2⟩:=List.getElem?_eq_some_iff.1 e
    have hk:k=(parL first at_ wide i).length:=by simp at h1;omega
    subst hk
    simp at h2
    rw [<-h2]
    exact ⟨rfl,rfl⟩
  ·rw [e2] at e
   rw [List.getElem?_append] at e
   split at e
   ·exact parL_get first at_ wide i k c e
   ·obtain ⟨h1,h2⟩:=List.getElem?_eq_some_iff.1 e
    simp only [List.length_cons,List.length_nil] at h1
    by_cases hk:k=(parL first at_ wide i).length
    ·subst hk
     simp at h2
     rw [<-h2]
     exact ⟨rfl,rfl⟩
    ·have hk:k=(parL first at_ wide i).length+1:=by omega
     subst hk
     simp at h2
     rw [<-h2]
     exact ⟨rfl,rfl⟩
theorem parL_len (first:Int) (at_ wide:Nat) (hw:3<=wide/\wide<=8) (i:Nat) (hi:i<=4):(parL first at_ wide i).length=i+(i+wide - 2) / (wide - 1):=by
 obtain ⟨h1,h2⟩:=hw
 have hww:wide=3\/wide=4\/wide=5\/wide=6\/wide=7\/wide=8:=by omega
 have hii:i=0\/i=1\/i=2\/i=3\/i=4:=by omega
 rcases hww with rfl | rfl | rfl | rfl | rfl | rfl <;> rcases hii with rfl | rfl | rfl | rfl | rfl <;> simp [parL]
def uOf (kind wide first dev at_:Int):Int:=if kind=0 then at_ - 16 else (at_ - 16)*wide+(dev - first)
theorem dvm (x w:Nat):((x / w:Nat):Int)*(w:Int)+((x % w:Nat):Int)=(x:Int):=by
 have:=Nat.div_add_mod x w
 have h2:w*(x / w)=(x / w)*w:=Nat.mul_comm _ _
 rw [h2] at this
 omega
theorem colL_at {s:Slc} {secs:Int} (h:goodG s secs) {grp:Nat} (hg:grp < s.len) {at_ size:Nat} (hs:1<=size/\size<=4) {k:Nat} {c:Col} (e:(colL s grp at_ size)[k]?=some c) :
  sumW s grp<=c.dev/\c.dev < sumW s grp+s.y grp/\16<=c.at_ /\
  (at_:Int)<=uOf (s.x grp) (s.y grp) (sumW s grp) c.dev c.at_/\uOf (s.x grp) (s.y grp) (sumW s grp) c.dev c.at_ < at_+takeOf (s.x grp) (s.y grp) size /\
  (if s.x grp=0 then (k:Int)=(c.dev - sumW s grp)*size+(c.at_ - 16 - at_) else (k:Int)=uOf (s.x grp) (s.y grp) (sumW s grp) c.dev c.at_ - at_):=by
 obtain ⟨w1,w2,w3⟩:=wide_of h hg
 obtain ⟨wd,hwd⟩:=Int.eq_ofNat_of_zero_le (show 0<=s.y grp by omega)
 unfold colL at e
 simp only [Int.toNat_natCast] at e
 rcases w3 with hx | ⟨hx,h3⟩
 ·rw [if_pos hx,hwd,Int.toNat_natCast] at e
  simp only [hx,if_true,uOf,takeOf]
  obtain ⟨h1,h2⟩:=List.getElem?_eq_some_iff.1 e
  simp at h1 h2
  subst h2
  have hd:k / size < wd:=Nat.div_lt_of_lt_mul (by rw [Nat.mul_comm];exact h1)
  have hm:k % size < size:=Nat.mod_lt _ (by omega)
  have hdm:=dvm k size
  have hn:(0:Int)<=((k / size:Nat):Int):=Int.natCast_nonneg _
  simp only [mirC]
  generalize k / size=q at *
  generalize k % size=r at *
  have e1:(sumW s grp+(q:Int) - sumW s grp)=(q:Int):=by omega
  rw [e1]
  refine ⟨by omega,by omega,by omega,by omega,by omega,by omega⟩
 ·have hx0:¬ s.x grp=0:=by omega
  rw [if_neg hx0,hwd,Int.toNat_natCast] at e
  simp only [hx0,if_false,uOf,takeOf]
  have hk:=(List.getElem?_eq_some_iff.1 e).1
  rw [parL_len _ _ _ (by omega) _ hs.2] at hk
  obtain ⟨e1,e2⟩:=parL_get _ _ _ _ _ _ e
  have hm:(at_+k) % wd < wd:=Nat.mod_lt _ (by omega)
  have hdm:=dvm (at_+k) wd
  have e3:(c.at_ - 16)*s.y grp+(c.dev - sumW s grp)=(at_:Int)+k:=by
   rw [e1,e2,hwd]
   have:(16+(((at_+k) / wd:Nat):Int) - 16)=(((at_+k) / wd:Nat):Int):=by omega
   rw [this];omega
  rw [e3]
  have hq:((size:Int)+s.y grp - 2) / (s.y grp - 1)=((size+wd - 2) / (wd - 1):Nat):=by
   rw [hwd]
   have:((size:Int)+(wd:Int) - 2)=((size+wd - 2:Nat):Int):=by omega
   rw [this]
   have:((wd:Int) - 1)=((wd - 1:Nat):Int):=by omega
   rw [this]
   exact (Int.natCast_ediv _ _).symm
  rw [hq]
  clear hq e3
  generalize hq0:(at_+k) / wd=q at *
  generalize (at_+k) % wd=r at *
  refine ⟨by omega,by omega,by omega,by omega,?_,by omega⟩
  have:=Int.emod_nonneg ((size:Int)+((size+wd - 2) / (wd - 1):Nat)) (show (2:Int)≠0 by omega)
  omega
theorem colL_inj {s:Slc} {secs:Int} (h:goodG s secs) {grp:Nat} (hg:grp < s.len) {at_ size:Nat} (hs:1<=size/\size<=4) {k j:Nat} {c d:Col} (e:(colL s grp at_ size)[k]?=some c) (e':(colL s grp at_ size)[j]?=some d) (hd:c.dev=d.dev) (ha:c.at_=d.at_):k=j:=by
 have h1:=(colL_at h hg hs e).2.2.2.2.2
 have h2:=(colL_at h hg hs e').2.2.2.2.2
 rw [hd,ha] at h1
 split at h1
 ·rename_i hx;rw [if_pos hx] at h2;omega
 ·rename_i hx;rw [if_neg hx] at h2;omega
theorem colL_apart {s:Slc} {secs:Int} (h:goodG s secs) {g g' a a' z z':Nat} (hg:g < s.len) (hg':g' < s.len) (hz:1<=z/\z<=4) (hz':1<=z'/\z'<=4)
  (hap:g=g'->∀ u:Nat,(a<=u/\(u:Int) < a+takeOf (s.x g) (s.y g) z)->(a'<=u/\(u:Int) < a'+takeOf (s.x g) (s.y g) z')->False) {k j:Nat} {c d:Col} (e:(colL s g a z)[k]?=some c) (e':(colL s g' a' z')[j]?=some d):c.dev≠d.dev\/c.at_≠d.at_:=by
 obtain ⟨p1,p2,p3,p4,p5,_⟩:=colL_at h hg hz e
 obtain ⟨q1,q2,q3,q4,q5,_⟩:=colL_at h hg' hz' e'
 by_cases hgg:g=g'
 ·subst hgg
  false_or_by_contra
  rename_i hne
  have hdev:c.dev=d.dev:=by false_or_by_contra;rename_i h3;exact hne (.inl h3)
  have hat:c.at_=d.at_:=by false_or_by_contra;rename_i h3;exact hne (.inr h3)
  rw [<-hdev,<- hat] at q4 q5
  obtain ⟨u,hu⟩:=Int.eq_ofNat_of_zero_le (show 0<=uOf (s.x g) (s.y g) (sumW s g) c.dev c.at_ by omega)
  rw [hu] at p4 p5 q4 q5
  exact hap rfl u ⟨by omega,p5⟩ ⟨by omega,q5⟩
 ·left
  rcases Nat.lt_or_gt_of_ne hgg with hlt | hlt
  ·have:=sumW_lt h g' g hlt (by omega);omega
  ·have:=sumW_lt h g g' hlt (by omega);omega
theorem colL_le {s:Slc} {secs:Int} (h:goodG s secs) {grp:Nat} (hg:grp < s.len) {at_ size:Nat} (hs:1<=size/\size<=4) (hin:(at_:Int)+takeOf (s.x grp) (s.y grp) size<=secsOf (s.x grp) (s.y grp) secs) {k:Nat} {c:Col} (e:(colL s grp at_ size)[k]?=some c):c.at_ < secs:=by
 obtain ⟨p1,p2,p3,p4,p5,_⟩:=colL_at h hg hs e
 obtain ⟨w1,w2,w3⟩:=wide_of h hg
 unfold uOf at p5
 unfold secsOf at hin
 rcases w3 with hx | ⟨hx,h3⟩
 ·rw [if_pos hx] at p5;rw [if_neg (by omega)] at hin;omega
 ·rw [if_neg (by omega)] at p5;rw [if_pos hx] at hin
  false_or_by_contra
  have:(secs - 16)*s.y grp<=(c.at_ - 16)*s.y grp:=Int.mul_le_mul_of_nonneg_right (by omega) (by omega)
  omega
theorem colL_len {s:Slc} {secs:Int} (h:goodG s secs) {grp:Nat} (hg:grp < s.len) {at_ size:Nat} (hs:1<=size/\size<=4):size<=(colL s grp at_ size).length/\(colL s grp at_ size).length<=32:=by
 obtain ⟨w1,w2,w3⟩:=wide_of h hg
 obtain ⟨wd,hwd⟩:=Int.eq_ofNat_of_zero_le (show 0<=s.y grp by omega)
 unfold colL
 simp only [Int.toNat_natCast,hwd]
 rcases w3 with hx | ⟨hx,h3⟩
 ·rw [if_pos hx]
  simp only [List.length_map,List.length_range]
  have h1:=Nat.mul_le_mul (show wd<=8 by omega) hs.2
  have h2:=Nat.mul_le_mul (show 1<=wd by omega) (Nat.le_refl size)
  omega
 ·rw [if_neg (by omega),parL_len _ _ _ (by omega) _ hs.2]
  have h5:(size+wd - 2) / (wd - 1)<=size+wd - 2:=Nat.div_le_self _ _
  generalize (size+wd - 2) / (wd - 1)=q at *
  omega
abbrev Run:=Nat × Nat
def inR (l:List Run) (x:Nat):Prop:=∃ r∈l,r.1<=x/\x < r.1+r.2
structure SortR (z:Nat) (l:List Run):Prop where
 pw:l.Pairwise λ a b=>a.1+a.2<=b.1
 pos:∀ r∈l,0 < r.2/\r.1+r.2<=z
def firstR (l:List Run) (at_:Nat):Nat:=l.findIdx λ r=>decide (at_ < r.1+r.2)
theorem firstR_le (l:List Run) (at_:Nat):firstR l at_<=l.length:=List.findIdx_le_length
theorem firstR_take {l:List Run} {at_:Nat}:∀ r∈l.take (firstR l at_),r.1+r.2<=at_:=by
 intro r hr
 obtain ⟨j,hj,e⟩:=List.mem_iff_getElem.1 hr
 have hj1:j < firstR l at_:=by simp at hj;omega
 have:=List.not_of_lt_findIdx hj1
 rw [List.getElem_take] at e
 rw [e] at this
 simpa using this
def joinX (out:List Run) (r:Run):List Run:=match out.getLast? with
 | some q=>if q.1+q.2=r.1 then out.dropLast++[(q.1,q.2+r.2)] else if 0 < r.2 then out++[r] else out
 | none=>if 0 < r.2 then out++[r] else out
def joinR (l:List Run):List Run:=l.foldl joinX []
theorem joinX_ok {z:Nat} {out:List Run} {r:Run} (h:SortR z out) (hr:0 < r.2/\r.1+r.2<=z) (ho:∀ q∈out,q.1+q.2<=r.1):SortR z (joinX out r)/\(∀ x,inR (joinX out r) x ↔ inR out x\/(r.1<=x/\x < r.1+r.2))/\(∀ q∈joinX out r,q.1+q.2<=r.1+r.2)/\(joinX out r).length<=out.length+1:=by
 have app:SortR z (out++[r])/\(∀ x,inR (out++[r]) x ↔ inR out x\/(r.1<=x/\x < r.1+r.2))/\(∀ q∈out++[r],q.1+q.2<=r.1+r.2)/\(out++[r]).length<=out.length+1:=by
  refine ⟨⟨List.pairwise_append.2 ⟨h.pw,List.pairwise_singleton ..,λ a ha b hb=>by rw [List.mem_singleton.1 hb];exact ho a ha⟩,λ q hq=>?_⟩,λ x=>?_,λ q hq=>?_,by simp⟩
  ·rcases List.mem_append.1 hq with hq | hq
   ·exact h.pos q hq
   ·rw [List.mem_singleton.1 hq];exact hr
  ·simp [inR,or_and_right,exists_or]
  ·rcases List.mem_append.1 hq with hq | hq
   ·have:=ho q hq;omega
   ·rw [List.mem_singleton.1 hq];exact Nat.le_refl _
 unfold joinX
 rw [if_pos hr.1]
 split
 ·rename_i q hq
  split
  ·rename_i e
   obtain ⟨o',rfl⟩:=List.getLast?_eq_some_iff.1 hq
   rw [List.dropLast_concat]
   have h1:=List.pairwise_append.1 h.pw
   have hqp:=h.pos q (by simp)
   refine ⟨⟨List.pairwise_append.2 ⟨h1.1,List.pairwise_singleton ..,λ a ha b hb=>?_⟩,λ p hp=>?_⟩,λ x=>?_,λ p hp=>?_,by simp⟩
   ·rw [List.mem_singleton.1 hb];exact h1.2.2 a ha q (by simp)
   ·rcases List.mem_append.1 hp with hp | hp
    ·exact h.pos p (by simp [hp])
    ·rw [List.mem_singleton.1 hp];dsimp only;omega
   ·constructor
    ·rintro ⟨p,hp,hx⟩
     rcases List.mem_append.1 hp with hp | hp
     ·exact .inl ⟨p,by simp [hp],hx⟩
     ·rw [List.mem_singleton.1 hp] at hx
      dsimp only at hx
      by_cases hx2:x < q.1+q.2
      ·exact .inl ⟨q,by simp,hx.1,hx2⟩
      ·exact .inr (by omega)
    ·rintro (⟨p,hp,hx⟩ | hx)
     ·rcases List.mem_append.1 hp with hp | hp
      ·exact ⟨p,by simp [hp],hx⟩
      ·rw [List.mem_singleton.1 hp] at hx
       exact ⟨(q.1,q.2+r.2),by simp,by dsimp only;omega⟩
     ·exact ⟨(q.1,q.2+r.2),by simp,by dsimp only;omega⟩
   ·rcases List.mem_append.1 hp with hp | hp
    ·have:=ho p (by simp [hp]);omega
    ·rw [List.mem_singleton.1 hp];dsimp only;omega
  ·exact app
 ·exact app
theorem joinR_ok {z:Nat} {l:List Run} (h:SortR z l):SortR z (joinR l)/\(∀ x,inR (joinR l) x ↔ inR l x)/\(joinR l).length<=l.length:=by
 have key:∀ (l:List Run) (out:List Run),SortR z l->SortR z out->(∀ q∈out,∀ r∈l,q.1+q.2<=r.1)->SortR z (l.foldl joinX out)/\(∀ x,inR (l.foldl joinX out) x ↔ inR out x\/inR l x)/\(l.foldl joinX out).length<=out.length+l.length:=by
  intro l
  induction l with
  | nil=>intro out _ h2 _;exact ⟨h2,λ x=>by simp [inR],by simp⟩
  | cons r l ih =>
   intro out h1 h2 h3
   have hp:=List.pairwise_cons.1 h1.pw
   obtain ⟨j1,j2,j3,j4⟩:=joinX_ok h2 (h1.pos r (by simp)) λ q hq=>h3 q hq r (by simp)
   obtain ⟨k1,k2,k3⟩:=ih (joinX out r) ⟨hp.2,λ q hq=>h1.pos q (by simp [hq])⟩ j1 λ q hq p hp'=>Nat.le_trans (j3 q hq) (hp.1 p hp')
   refine ⟨k1,λ x=>?_,by simp only [List.foldl_cons,List.length_cons];omega⟩
   rw [List.foldl_cons,k2 x,j2 x]
   simp only [inR,List.mem_cons]
   constructor
   ·rintro ((h | h) | ⟨p,hp,hx⟩)
    ·exact .inl h
    ·exact .inr ⟨r,.inl rfl,h⟩
    ·exact .inr ⟨p,.inr hp,hx⟩
   ·rintro (h | ⟨p,rfl | hp,hx⟩)
    ·exact .inl (.inl h)
    ·exact .inl (.inr hx)
    ·exact .inr ⟨p,hp,hx⟩
 obtain ⟨k1,k2,k3⟩:=key l [] h ⟨List.Pairwise.nil,λ r hr=>by cases hr⟩ λ q hq=>by cases hq
 exact ⟨k1,λ x=>by rw [joinR,k2 x];simp [inR],by simpa [joinR] using k3⟩
def putR (l:List Run) (at_ n:Nat):List Run:=l.take (firstR l at_)++([(at_,n)]++l.drop (firstR l at_))
theorem putR_ok {z:Nat} {l:List Run} {at_ n:Nat} (h:SortR z l) (hn:0 < n) (hz:at_+n<=z) (hf:∀ r,l[firstR l at_]?=some r->at_+n<=r.1):SortR z (putR l at_ n)/\(∀ x,inR (putR l at_ n) x ↔ inR l x\/(at_<=x/\x < at_+n))/\(putR l at_ n).length=l.length+1:=by
 have e:=List.take_append_drop (firstR l at_) l
 have hp:(l.take (firstR l at_)++l.drop (firstR l at_)).Pairwise λ a b=>a.1+a.2<=b.1:=by rw [e];exact h.pw
 obtain ⟨p1,p2,p3⟩:=List.pairwise_append.1 hp
 have hd:∀ r∈l.drop (firstR l at_),at_+n<=r.1:=by
  intro r hr
  by_cases hlt:firstR l at_ < l.length
  ·have h0:=hf _ (List.getElem?_eq_getElem hlt)
   rw [List.drop_eq_getElem_cons hlt] at hr p2
   rcases List.mem_cons.1 hr with rfl | hr
   ·exact h0
   ·have:=(List.pairwise_cons.1 p2).1 r hr
    omega
  ·rw [List.drop_eq_nil_of_le (by omega)] at hr;cases hr
 refine ⟨⟨?_,λ r hr=>?_⟩,λ x=>?_,?_⟩
 ·refine List.pairwise_append.2 ⟨p1,List.pairwise_cons.2 ⟨λ r hr=>hd r hr,p2⟩,λ a ha b hb=>?_⟩
  rcases List.mem_cons.1 hb with rfl | hb
  ·exact firstR_take a ha
  ·exact p3 a ha b hb
 ·rcases List.mem_append.1 hr with hr | hr
  ·exact h.pos r (List.mem_of_mem_take hr)
  ·rcases List.mem_cons.1 hr with rfl | hr
   ·exact ⟨hn,hz⟩
   ·exact h.pos r (List.mem_of_mem_drop hr)
 ·have:inR l x ↔ inR (l.take (firstR l at_)++l.drop (firstR l at_)) x:=by rw [e]
  rw [this]
  simp only [inR,putR,List.mem_append,List.mem_singleton]
  constructor
  ·rintro ⟨r,h | rfl | h,hx⟩
   ·exact .inl ⟨r,.inl h,hx⟩
   ·exact .inr hx
   ·exact .inl ⟨r,.inr h,hx⟩
  ·rintro (⟨r,h | h,hx⟩ | hx)
   ·exact ⟨r,.inl h,hx⟩
   ·exact ⟨r,.inr (.inr h),hx⟩
   ·exact ⟨_,.inr (.inl rfl),hx⟩
 ·have:=congrArg List.length e
  simp only [List.length_append] at this
  simp [putR]
  omega
def fitL (n z:Nat):List Run->Nat->Option Nat
 | [],at_=>if at_+n<=z then some at_ else none
 | r::l,at_=>if at_+n<=r.1 then some at_ else fitL n z l (max at_ (r.1+r.2))
def fitR (n z:Nat) (l:List Run) (from_:Nat):Option Nat:=fitL n z (l.drop (firstR l from_)) from_
theorem fitL_ok {n z:Nat}:∀ (l:List Run) (at_ a:Nat),SortR z l->fitL n z l at_=some a->at_<=a/\(a+n<=z\/l≠[])/\(∀ r∈l,r.1+r.2<=a\/a+n<=r.1)
 | [],at_,a,_,e=>by
  unfold fitL at e
  split at e
  ·cases e;exact ⟨Nat.le_refl _,.inl (by assumption),λ r hr=>by cases hr⟩
  ·cases e
 | r::l,at_,a,h,e=>by
  have hp:=List.pairwise_cons.1 h.pw
  unfold fitL at e
  split at e
  ·rename_i h1
   cases e
   refine ⟨Nat.le_refl _,.inr (by simp),λ q hq=>.inr ?_⟩
   rcases List.mem_cons.1 hq with rfl | hq
   ·exact h1
   ·have:=hp.1 q hq;omega
  ·obtain ⟨k1,_,k3⟩:=fitL_ok l _ a ⟨hp.2,λ q hq=>h.pos q (by simp [hq])⟩ e
   refine ⟨by omega,.inr (by simp),λ q hq=>?_⟩
   rcases List.mem_cons.1 hq with rfl | hq
   ·exact .inl (by omega)
   ·exact k3 q hq
theorem fitL_le {n z:Nat}:∀ (l:List Run) (at_ a:Nat),SortR z l->fitL n z l at_=some a->a+n<=z
 | [],at_,a,_,e=>by
  unfold fitL at e
  split at e
  ·cases e;assumption
  ·cases e
 | r::l,at_,a,h,e=>by
  unfold fitL at e
  split at e
  ·cases e;have:=h.pos r (by simp);omega
  ·exact fitL_le l _ a ⟨(List.pairwise_cons.1 h.pw).2,λ q hq=>h.pos q (by simp [hq])⟩ e
theorem fitR_ok {n z:Nat} {l:List Run} {from_ a:Nat} (h:SortR z l) (e:fitR n z l from_=some a):from_<=a/\a+n<=z/\(∀ r∈l,r.1+r.2<=a\/a+n<=r.1):=by
 have hd:SortR z (l.drop (firstR l from_)):=⟨h.pw.sublist (List.drop_sublist _ _),λ r hr=>h.pos r (List.mem_of_mem_drop hr)⟩
 obtain ⟨k1,_,k3⟩:=fitL_ok _ _ _ hd e
 refine ⟨k1,fitL_le _ _ _ hd e,λ r hr=>?_⟩
 rw [<-List.take_append_drop (firstR l from_) l] at hr
 rcases List.mem_append.1 hr with hr | hr
 ·have:=firstR_take r hr;exact .inl (by omega)
 ·exact k3 r hr
theorem fit_first {n:Nat} {l:List Run} {a:Nat} (h:∀ r∈l,r.1+r.2<=a\/a+n<=r.1) (r:Run) (e:l[firstR l a]?=some r):a+n<=r.1:=by
 obtain ⟨hlt,e2⟩:=List.getElem?_eq_some_iff.1 e
 have h1:a < r.1+r.2:=by
  have h3:l[List.findIdx (λ r:Run=>decide (a < r.1+r.2)) l]'hlt=r:=e2
  have h4:=List.findIdx_getElem (xs:=l) (p:=λ r:Run=>decide (a < r.1+r.2)) (w:=hlt)
  rw [h3] at h4
  simpa using h4
 rcases h r (List.mem_of_getElem? e) with h2 | h2
 ·omega
 ·exact h2
end Go.Proofs.YtlfjdjndhcmliaaGreatDoor
namespace Go.Proofs.YtlfjdjndhcmliaaGreatDoor
open Go.RowKit Go.Sort
def Sub (h1 h:Hl):Prop:=∀ n o,h1 n=some o->h n=some o
def Apart (h1 h2:Hl):Prop:=∀ n,h1 n=none\/h2 n=none
theorem Sub.refl (h:Hl):Sub h h:=λ _ _ e=>e
theorem Sub.trans {a b c:Hl} (s:Sub a b) (t:Sub b c):Sub a c:=λ n o e=>t n o (s n o e)
theorem Apart.symm {a b:Hl} (s:Apart a b):Apart b a:=λ n=>(s n).symm
theorem Apart.sub {a b c:Hl} (s:Apart a b) (t:Sub c b):Apart a c:=λ n=>by
 rcases s n with h | h
 ·exact .inl h
 ·right
  cases e:c n with
  | none=>rfl
  | some o=>rw [t n o e] at h;cases h
theorem Has.sub {W:World} {h h1:Hl} (i:Has W h) (s:Sub h1 h):Has W h1:=⟨λ n o e=>i.get n o (s n o e)⟩
theorem Mod.wide {W w':World} {h h0:Hl} (m:Mod h0 W w') (s:Sub h0 h):Mod h W w' :=
 ⟨m.os,m.tape,m.output,m.size,λ k hk e=>m.block k hk (by
  cases e0:h0 k with
  | none=>rfl
  | some o=>rw [s k o e0] at e;cases e)⟩
theorem Sub.none {h0 h:Hl} (s:Sub h0 h) {n:Nat} (e:h n=none):h0 n=none:=by
 cases e0:h0 n with
 | none=>rfl
 | some o=>rw [s n o e0] at e;cases e
theorem Turns.frame {W w':World} {h h0:Hl} {P:Hl->Prop} (hw:Has W h) (s:Sub h0 h) (t:Turns W h0 P w') :
  Turns W h (λ h'=>∃ h1,P h1/\Sub h1 h'/\∀ hk,Sub hk h->Apart hk h0->Sub hk h'/\Apart hk h1) w':=by
 obtain ⟨m,h1,i,x,p⟩:=t
 refine ⟨m.wide s,λ n=>if n < W.heap.size/\h0 n=none then h n else h1 n,⟨λ n o e=>?_⟩,λ n hn e=>?_,h1,p,λ n o e=>?_,λ hk hs ha=>⟨λ n o e=>?_,λ n=>?_⟩⟩
 ·by_cases hc:n < W.heap.size/\h0 n=none
  ·simp only [if_pos hc] at e
   rw [m.block n hc.1 hc.2]
   exact hw.get n o e
  ·simp only [if_neg hc] at e
   exact i.get n o e
 ·by_cases hc:n < W.heap.size/\h0 n=none
  ·simp only [if_pos hc];exact e
  ·exact absurd ⟨hn,s.none e⟩ hc
 ·refine (if_neg ?_).trans e
  rintro ⟨h2,h3⟩
  rw [x n h2 h3] at e;cases e
 ·have hl:=hw.lt (hs n o e)
  have h0n:h0 n=none:=by
   rcases ha n with h | h
   ·rw [h] at e;cases e
   ·exact h
  exact (if_pos ⟨hl,h0n⟩).trans (hs n o e)
 ·cases e:hk n with
  | none=>exact .inl rfl
  | some o =>
   right
   have hl:=hw.lt (hs n o e)
   rcases ha n with h | h
   ·rw [h] at e;cases e
   ·exact x n hl h
theorem Turns.mono {W w':World} {h:Hl} {P Q:Hl->Prop} (t:Turns W h P w') (k:∀ h',P h'->Q h'):Turns W h Q w':=by
 obtain ⟨m,h1,i,x,p⟩:=t
 exact ⟨m,h1,i,x,k _ p⟩
theorem Turns.gr {W w':World} {h:Hl} {P:Hl->Prop} (t:Turns W h P w') (g:Gr):Turns W h P (gr w' g):=by
 obtain ⟨m,h1,i,x,p⟩:=t
 exact ⟨m.gr g,h1,ii,x,p⟩
theorem Turns.same {W:World} {h:Hl} {P:Hl->Prop} (i:Has W h) (p:P h):Turns W h P W:=⟨Mod.refl _ _,h,i,λ _ _ e=>e,p⟩
theorem Turns.below {W w':World} {h:Hl} {P:Hl->Prop} (i:Has W h) (p:P h) (b:Below W.heap.size W w'):Turns W h P w':=by
 obtain ⟨g,rfl⟩:=gr_of_below b
 exact (Turns.same i p).gr g
abbrev SP:=Hl->Prop
def star:List SP->SP
 | [],_=>True
 | p::l,h=>∃ h1 h2,p h1/\star l h2/\Sub h1 h/\Sub h2 h/\Apart h1 h2
theorem star.sub:∀ {l:List SP} {h h':Hl},star l h->Sub h h'->star l h'
 | [],_,_,_,_=>trivial
 | _::_,_,_,⟨h1,h2,a,b,c,d,e⟩,s=>⟨h1,h2,a,b,c.trans s,d.trans s,e⟩
theorem star.focus:∀ {l:List SP} {h:Hl} {i:Nat} {p:SP},star l h->l[i]?=some p->∃ h0,p h0/\Sub h0 h /\
  ∀ (q:SP) (h1 h':Hl),q h1->Sub h1 h'->(∀ hk,Sub hk h->Apart hk h0->Sub hk h'/\Apart hk h1)->star (l.set i q) h'
 | [],_,_,_,_,e=>by simp at e
 | a::l,h,0,p,⟨h1,h2,pa,pl,s1,s2,ap⟩,e=>by
  have e:a=p:=by simpa using e
  subst e
  refine ⟨h1,pa,s1,λ q k h' hq hs f=>?_⟩
  obtain ⟨f1,f2⟩:=f h2 s2 ap.symm
  exact ⟨k,h2,hq,pl,hs,f1,f2.symm⟩
 | a::l,h,i+1,p,⟨h1,h2,pa,pl,s1,s2,ap⟩,e=>by
  have e:l[i]?=some p:=by simpa using e
  obtain ⟨h0,hp,hs,f⟩:=pl.focus e
  refine ⟨h0,hp,hs.trans s2,λ q k h' hq hk g=>?_⟩
  obtain ⟨g1,g2⟩:=g h1 s1 (ap.sub hs)
  refine ⟨h1,λ n=>if h1 n=none then h' n else none,pa,f q k _ hq (λ n o e=>?_) (λ hk s ak=>?_),g1,λ n o e=>?_,λ n=>?_⟩
  ·have:h1 n=none:=by rcases g2 n with h | h;exact h;rw [h] at e;cases e
   simp only [if_pos this]
   exact hk n o e
  ·obtain ⟨k1,k2⟩:=g hk (s.trans s2) ak
   refine ⟨λ n o e=>?_,k2⟩
   have:h1 n=none:=by
    rcases ap n with h | h
    ·exact h
    ·rw [s n o e] at h;cases h
   simp only [if_pos this]
   exact k1 n o e
  ·by_cases hh:h1 n=none
   ·simp only [if_pos hh] at e;exact e
   ·simp only [if_neg hh] at e;cases e
  ·by_cases hh:h1 n=none
   ·exact .inl hh
   ·right;simp only [if_neg hh]
theorem star.get {l:List SP} {h:Hl} {i:Nat} {p:SP} (s:star l h) (e:l[i]?=some p):∃ h0,p h0/\Sub h0 h:=by
 obtain ⟨h0,a,b,_⟩:=s.focus e
 exact ⟨h0,a,b⟩
theorem star.map:∀ {l:List SP} {h:Hl} {i:Nat} {p q:SP},star l h->l[i]?=some p->(∀ h,p h->q h)->star (l.set i q) h:=λ s e f=>by
 obtain ⟨h0,a,b,c⟩:=s.focus e
 exact c _ h0 _ (f _ a) b λ hk h1 h2=>⟨h1,h2⟩
theorem star.ex {α:Type} {l:List SP} {h:Hl} {i:Nat} {q:α->SP} (s:star (l.set i λ h=>∃ x,q x h) h) (hi:i < l.length):∃ x,star (l.set i (q x)) h:=by
 obtain ⟨h0,⟨x,a⟩,b,c⟩:=s.focus (i:=i) (p:=λ h=>∃ x,q x h) (by simp [hi])
 refine ⟨x,?_⟩
 have:=c (q x) h0 h a b λ hk h1 h2=>⟨h1,h2⟩
 simpa using this
theorem star.pure {r:Prop} {l:List SP} {h:Hl} {i:Nat} {q:SP} (s:star (l.set i λ h=>r/\q h) h) (hi:i < l.length):r/\star (l.set i q) h:=by
 obtain ⟨h0,⟨x,a⟩,b,c⟩:=s.focus (i:=i) (p:=λ h=>r/\q h) (by simp [hi])
 refine ⟨x,?_⟩
 have:=c q h0 h a b λ hk h1 h2=>⟨h1,h2⟩
 simpa using this
theorem Turns.focus {W w':World} {h:Hl} {l:List SP} {i:Nat} {p q:SP} (hw:Has W h) (s:star l h) (e:l[i]?=some p) (k:∀ h0,p h0->Has W h0->Turns W h0 q w'):Turns W h (star (l.set i q)) w':=by
 obtain ⟨h0,a,b,c⟩:=s.focus e
 refine ((k h0 a (hw.sub b)).frame hw b).mono λ h' ⟨h1,q1,q2,q3⟩=>?_
 exact c q h1 h' q1 q2 q3
def Tu (f:FuncId) (args:Array Value) (p:SP) (q:Value->SP):Prop:=∀ W h,Has W h->p h->Calls Tryz.prog f args W λ e w'=>∃ v,e=.returned v/\Turns W h (q v) w'
theorem Tu.mono {f:FuncId} {args:Array Value} {p p':SP} {q q':Value->SP} (t:Tu f args p q) (hp:∀ h,p' h->p h) (hq:∀ v h,q v h->q' v h):Tu f args p' q' :=
 λ W h i s=>(t W h i (hp h s)).mono λ _ _ ⟨v,e,t⟩=>⟨v,e,t.mono λ h'=>hq v h'⟩
theorem Tu.at_ {f:FuncId} {args:Array Value} {p:SP} {q:Value->SP} (t:Tu f args p q) {l:List SP} {i:Nat} (e:l[i]?=some p):Tu f args (star l) λ v=>star (l.set i (q v)):=by
 intro W h hw s
 obtain ⟨h0,a,b,c⟩:=s.focus e
 refine (t W h0 (hw.sub b) a).mono λ _ _ ⟨v,ev,t⟩=>⟨v,ev,(t.frame hw b).mono λ h' ⟨h1,q1,q2,q3⟩=>?_⟩
 exact c (q v) h1 h' q1 q2 q3
theorem Tu.go {f:FuncId} {args:Array Value} {p:SP} {q:Value->SP} {W:World} {h:Hl} {R:Ending->World->Prop} (t:Tu f args p q) (s:p h) (k:∀ v c h',HasAt c h W.heap.size h'->Ext h' h W.heap.size->q v h'->R (.returned v) (md W h c)) [i:Has W h]:Calls Tryz.prog f args W R :=
 (t W h i s).mono λ _ _ ⟨v,e,t⟩=>by
  obtain ⟨c,h',rfl,a,b,q⟩:=t.get
  rw [e];exact k v c h' a b q
class In (p:SP) (W:World):Prop where
 ex:∃ h0,p h0/\Has W h0
theorem In.of_star {l:List SP} {p:SP} {W:World} {h:Hl} (i:Has W h) (s:star l h) {k:Nat} (e:l[k]?=some p):In p W:=by
 obtain ⟨h0,a,b⟩:=s.get e
 exact ⟨h0,a,i.sub b⟩
instance inAlloc (p:SP) (W:World) (o:Obj) [k:In p W]:In p (W.alloc o):=by obtain ⟨h0,a,b⟩:=k.ex;exact ⟨h0,a,ii⟩
instance inGr (p:SP) (W:World) (g:Gr) [k:In p W]:In p (gr W g):=by obtain ⟨h0,a,b⟩:=k.ex;exact ⟨h0,a,ii⟩
class HAt (h:Hl) (n:Nat) (cs:outParam (Array Value)):Prop where
 get:∃ t,h n=some (.cells cs t)
class CellsIn (W:World) (n:Nat) (cs:outParam (Array Value)):Prop where
 get:∃ t,W.heap[n]?=some (.cells cs t)
instance cellsInH (W:World) (h:Hl) (n:Nat) (cs:Array Value) [i:Has W h] [k:HAt h n cs]:CellsIn W n cs:=by
 obtain ⟨t,e⟩:=k.get
 exact ⟨t,i.get n _ e⟩
theorem CellsIn.old {W:World} {n:Nat} {cs:Array Value} (k:CellsIn W n cs):Old n W:=by
 obtain ⟨t,e⟩:=k.get
 exact ⟨(Array.getElem?_eq_some_iff.1 e).1⟩
instance cellsInGr (W:World) (n:Nat) (cs:Array Value) (g:Gr) [k:CellsIn W n cs]:CellsIn (gr W g) n cs:=by
 have:=k.old.h
 obtain ⟨t,e⟩:=k.get
 exact ⟨t,by rw [gr_heap _ _ this];exact e⟩
instance cellsInAlloc (W:World) (n:Nat) (cs:Array Value) (o:Obj) [k:CellsIn W n cs]:CellsIn (W.alloc o) n cs:=by
 have:=k.old.h
 obtain ⟨t,e⟩:=k.get
 exact ⟨t,by rw [Below.heap_alloc _ _ _ this];exact e⟩
instance cellsInDrew (W:World) (n:Nat) (cs:Array Value) [k:CellsIn W n cs]:CellsIn W.drew n cs:=⟨k.get⟩
@[go_sem] theorem cell_in (W:World) (n i:Nat) (cs:Array Value) [k:CellsIn W n cs]:W.cell? ⟨n,i,none⟩=cs[i]?:=by
 obtain ⟨t,e⟩:=k.get
 simp [World.cell?,e]
@[go_sem] theorem frozen_in (W:World) (n i:Nat) (cs:Array Value) [k:CellsIn W n cs]:W.frozen? ⟨n,i,none⟩=false:=by
 obtain ⟨t,e⟩:=k.get
 simp [World.frozen?,e]
class Tn (W:World) (h:Hl) (w:World) (h':outParam Hl):Prop where
 m:Mod h W w
 i:Has w h'
 x:∀ n,n < W.heap.size->h n=none->h' n=none
instance (priority:=low) tnSelf (W:World) (h:Hl) [i:Has W h]:Tn W h W h:=⟨Mod.refl _ _,i,λ _ _ e=>e⟩
instance tnAlloc (W:World) (h:Hl) (w:World) (h':Hl) (o:Obj) [t:Tn W h w h']:Tn W h (w.alloc o) h':=by have:=t.i;exact ⟨t.m.alloc o,ii,t.x⟩
instance tnGr (W:World) (h:Hl) (w:World) (h':Hl) (g:Gr) [t:Tn W h w h']:Tn W h (gr w g) h':=by have:=t.i;exact ⟨t.m.gr g,ii,t.x⟩
instance tnMd (W:World) (h:Hl) (w:World) (h1 h2:Hl) (c:World) (k:Nat) [t:Tn W h w h1] [a:HasAt c h1 k h2] [z:SizeIs w k]:Tn W h (md w h1 c) h2:=by
 have:=t.i
 refine ⟨t.m.trans (md_mod w h1 c) t.x,ii,λ n hn e=>a.ext.out n ?_ (t.x n hn e)⟩
 have:=t.m.size
 rw [<-z.h];omega
theorem Turns.of {W:World} {h:Hl} {w:World} {h':Hl} {P:Hl->Prop} [t:Tn W h w h'] (p:P h'):Turns W h P w:=⟨t.m,h',t.i,t.x,p⟩
def Hl.put (h:Hl) (n:Nat) (o:Obj):Hl:=λ k=>if k=n then some o else h k
theorem Hl.put_same (h:Hl) (n:Nat) (o:Obj):h.put n o n=some o:=if_pos rfl
theorem Hl.put_other (h:Hl) {n k:Nat} (o:Obj) (e:k≠n):h.put n o k=h k:=if_neg e
theorem heap_setCell {w:World} {n k:Nat} {v:Value} {cs:Array Value} {t:TypeId} (e:w.heap[n]?=some (.cells cs t)):(w.setCell ⟨n,k,none⟩ v).heap[n]?=some (.cells (cs.setIfInBounds k v) t):=by
 simp [World.setCell,Array.getElem?_modify,e]
theorem set_in (w:World) (h:Hl) (n k:Nat) (v:Value) (cs:Array Value) (t:TypeId) [i:Has w h] (e:h n=some (.cells cs t)) :
  ∃ c,w.setCell ⟨n,k,none⟩ v=md w h c/\HasAt c h w.heap.size (h.put n (.cells (cs.setIfInBounds k v) t))/\Ext (h.put n (.cells (cs.setIfInBounds k v) t)) h w.heap.size:=by
 have t1:Turns w h (λ h'=>h'=h.put n (.cells (cs.setIfInBounds k v) t)) (w.setCell ⟨n,k,none⟩ v):=by
  refine ⟨(Mod.refl h w).setCell (.inr (by rw [e];simp)) v,_,⟨λ m o e2=>?_⟩,λ m _ e2=>?_,rfl⟩
  ·by_cases hm:m=n
   ·subst hm
    rw [Hl.put_same] at e2
    cases e2
    exact heap_setCell (i.get _ _ e)
   ·rw [Hl.put_other _ _ hm] at e2
    rw [Below.heap_setCell _ _ _ _ (λ e3:m=n=>hm e3)]
    exact i.get m o e2
  ·by_cases hm:m=n
   ·subst hm;rw [e] at e2;cases e2
   ·rw [Hl.put_other _ _ hm];exact e2
 obtain ⟨c,h',a,b,d,rfl⟩:=t1.get
 exact ⟨c,a,b,d⟩
end Go.Proofs.YtlfjdjndhcmliaaGreatDoor
