/- WholeOld, part 38. -/
import Derived.Test.YtlfjdjndhcmliaaGreatDoorA25
import Derived.Shelf.SlSortCmp.WholeK
import Derived.Ground.SlsfProg
import Derived.Test.YtlfjdjndhcmliaaGreatDoorProg
import Derived.Test.YtlfjdjndhcmliaaGreatDoorA36
import Derived.Shelf.SlSortCmp.NoneTotal
import Derived.Test.YtlfjdjndhcmliaaGreatDoorA37
import Derived.Test.YtlfjdjndhcmliaaGreatDoorA31
set_option maxRecDepth 100000
set_option maxHeartbeats 4000000
set_option linter.all false
namespace Go.Proofs.YtlfjdjndhcmliaaGreatDoor
open Go.RowKit Go.Sort
@[go_sem] def Uy (W w':World):Prop:=∃ p:Gr,w'=gr W ⟨W.drawn+p.d,p.os⟩
theorem Uy.sort{W w':World}(h:Uy W w'):∃ q os,w'=grow (W.drewN q) os:=by
 obtain⟨p,rfl⟩:=h;exact⟨p.d,p.os,rfl⟩
theorem Uy.trans{a b c:World}(h:Uy a b)(k:Uy b c):Uy a c:=by
 obtain⟨p,rfl⟩:=h;obtain⟨q,rfl⟩:=k;refine⟨⟨p.d+q.d,p.os++q.os⟩,?_⟩;simp [gr,redrawn,grow,Nat.add_assoc]
theorem Uy.alloc(W:World)(o:Obj):Uy W (W.alloc o):=⟨⟨0,#[o]⟩,by
 have e:W.alloc o=gr W ((⟨W.drawn,#[]⟩:Gr).push o):=by rw [<-ZK];simp only [gr,grow_empty];rfl
 exact e⟩
theorem Uy.drew(W:World):Uy W { W with drawn:=W.drawn+1 }:=⟨⟨1,#[]⟩,by simp only [gr,grow_empty];rfl⟩
def or3(x y z:Int):Int:=if x=0 then(if y=0 then z else y)else x
theorem Ze4(b:Nat)(x y z:Int)(W:World)[k:Zh W b #[.int .i64 x,.int .i64 y,.int .i64 z]]:Calls Tryz.prog 225 #[.slice (some ⟨b,0,none⟩) 3 3] W λ e w'=>e=.returned (.int .i64 (or3 x y z))/\w'=W:=by
 generalize hr:or3 x y z=r;have h1:=Lib.hid (show x=0->y=0->r=z from λ h h'=>by rw [<-hr,or3,if_pos h,if_pos h']);have h2:=Lib.hid (show x=0->y≠0->r=y from λ h h'=>by rw [<-hr,or3,if_pos h,if_neg h']);have h3:=Lib.hid (show x≠0->r=x from λ h=>by rw [<-hr,or3,if_neg h]);clear hr
 go_in
 go_wp2_with fail
 go_loopw [8] (λ i wr=>(i=.int .i64 0\/(i=.int .i64 1/\x=0)\/(i=.int .i64 2/\x=0/\y=0)\/(i=.int .i64 3/\x=0/\y=0/\z=0))/\wr=W)
  (λ i _=>3-(intOf i).toNat)
 case atStart=>exact⟨.inl rfl,rfl⟩
 case round =>
  obtain⟨rfl|⟨rfl,hx⟩|⟨rfl,hx,hy⟩|⟨rfl,hx,hy,hz⟩,rfl⟩:=hrel
  ·by_cases hx:x=0
   ·have e:(x !=0)=false:=by simp [hx]
    have Hx:=Lib.hid hx;clear hx;go_wp2_with fail;exact⟨⟨.inr (.inl ⟨rfl,Hx.out⟩),trivial⟩,by simp [intOf]⟩
   ·have e:(x !=0)=true:=by simp [hx]
    have e2:=h3.out hx;subst e2;clear hx h1 h2 h3;go_wp2_with fail;go_ret;exact⟨rfl,rfl⟩
  ·by_cases hy:y=0
   ·have e:(y !=0)=false:=by simp [hy]
    have Hx:=Lib.hid hx;have Hy:=Lib.hid hy;clear hx hy;go_wp2_with fail;exact⟨⟨.inr (.inr (.inl ⟨rfl,Hx.out,Hy.out⟩)),trivial⟩,by simp [intOf]⟩
   ·have e:(y !=0)=true:=by simp [hy]
    have e2:=h2.out hx hy;subst e2;clear hx hy h1 h2 h3;go_wp2_with fail;go_ret;exact⟨rfl,rfl⟩
  ·have e2:=h1.out hx hy;subst e2;have Hx:=Lib.hid hx;have Hy:=Lib.hid hy;clear hx hy h1 h2 h3
   by_cases hz:r=0
   ·have e:(r !=0)=false:=by simp [hz]
    have Hz:=Lib.hid hz;clear hz;go_wp2_with fail;exact⟨⟨.inr (.inr (.inr ⟨rfl,Hx.out,Hy.out,Hz.out⟩)),trivial⟩,by simp [intOf]⟩
   ·have e:(r !=0)=true:=by simp [hz]
    clear hz;go_wp2_with fail;go_ret;exact⟨rfl,rfl⟩
  ·have e2:=h1.out hx hy;subst e2;clear h1 h2 h3;subst hx hy hz;go_wp2_with fail;go_ret;exact⟨rfl,rfl⟩
def ltP(p q:Pt):Bool:=decide (or3 (Lib.compareInt p.birth q.birth) (Lib.compareInt p.ag q.ag) (Lib.compareInt p.aa q.aa)<0)
theorem Zc2(p q:Pt)(W:World):Calls Tryz.prog 182 #[.agg p.cs,.agg q.cs] W λ e w'=>e=.returned (.bool (ltP p q))/\Uy W w':=by
 simp only [Pt.cs];have C1:=λ w=>Tryz.cmp_Compare_int p.birth q.birth w
 have C2:=λ w=>Tryz.cmp_Compare_int p.ag q.ag w
 have C3:=λ w=>Tryz.cmp_Compare_int p.aa q.aa w
 unfold ltP;generalize Lib.compareInt p.birth q.birth=x at C1 ⊢;generalize Lib.compareInt p.ag q.ag=y at C2 ⊢;generalize Lib.compareInt p.aa q.aa=z at C3 ⊢
 go_in
 go_wp2_with fail;refine KT (C:=Uy _) 19 (by kernel_rfl) (by kernel_rfl) (Uy.drew _) ?_;simp only [List.take_succ_cons,List.take_zero,List.drop_succ_cons,List.drop_zero]
 repeat(go_big_quiet_step (first|(go_at_call 226;with_reducible refine(C1 _).mono ?_;rintro e w' ⟨rfl,rfl⟩;exact⟨rfl,_,rfl⟩)|(with_reducible refine(C2 _).mono ?_;rintro e w' ⟨rfl,rfl⟩;exact⟨rfl,_,rfl⟩)|(with_reducible refine(C3 _).mono ?_;rintro e w' ⟨rfl,rfl⟩;exact⟨rfl,_,rfl⟩)))
 refine wpQuiet_nil ?_;rintro w1 hw1;go_wp2_with fail
 have HO:∀ w:World,Calls Tryz.prog 225 #[.slice (some ⟨w.heap.size,0,none⟩) 3 3] (w.alloc (.cells #[.int .i64 x,.int .i64 y,.int .i64 z] 3)) λ e w'=>e=.returned (.int .i64 (or3 x y z))/\w'=w.alloc (.cells #[.int .i64 x,.int .i64 y,.int .i64 z] 3):=λ w=>by
  haveI:Zh (w.alloc (.cells #[.int .i64 x,.int .i64 y,.int .i64 z] 3)) w.heap.size #[.int .i64 x,.int .i64 y,.int .i64 z]:=⟨_,heap_alloc_new _ _⟩
  exact Ze4 _ _ _ _ _
 refine(HO _).mono ?_;rintro e w' ⟨rfl,rfl⟩;have hw2:=((((Uy.alloc W _).trans (Uy.alloc _ _)).trans hw1)).trans (Uy.alloc _ (.cells #[.int .i64 x,.int .i64 y,.int .i64 z] 3));clear hw1 C1 C2 C3 HO;go_wp2_with fail;go_ret;exact⟨rfl,hw2⟩
def Zcj(p q:Pt):Int:=if ltP p q then -1 else if ltP q p then 1 else 0
theorem Zg3(p q:Pt)(W:World):Calls Tryz.prog 181 #[.agg p.cs,.agg q.cs] W λ e w'=>e=.returned (.int .i64 (Zcj p q))/\Uy W w':=by
 have L1:=λ w=>Zc2 p q w
 have L2:=λ w=>Zc2 q p w
 unfold Zcj;simp only [Pt.cs]at L1 L2 ⊢;generalize ltP p q=x at L1 ⊢;generalize ltP q p=y at L2 ⊢;cases x
 ·go_in
  go_wp2_with fail;refine(L1 _).mono ?_;rintro e w1 ⟨rfl,h1⟩;have h2:=((Uy.alloc W _).trans (Uy.alloc _ _)).trans h1;obtain⟨g1,rfl⟩:=h1;dsimp only;cases y
  ·go_wp2_with fail;refine(L2 _).mono ?_;rintro e w2 ⟨rfl,h3⟩;have h4:=h2.trans h3;clear h2 h3 L1 L2;dsimp only;go_wp2_with fail;go_ret;exact⟨rfl,h4⟩
  ·go_wp2_with fail;refine(L2 _).mono ?_;rintro e w2 ⟨rfl,h3⟩;have h4:=h2.trans h3;clear h2 h3 L1 L2;dsimp only;go_wp2_with fail;go_ret;exact⟨rfl,h4⟩
 ·go_in
  go_wp2_with fail;refine(L1 _).mono ?_;rintro e w1 ⟨rfl,h1⟩;have h2:=((Uy.alloc W _).trans (Uy.alloc _ _)).trans h1;clear h1 L1 L2;dsimp only;go_wp2_with fail;go_ret;exact⟨rfl,h2⟩
theorem Zai(p q:Pt):ltP p q=true↔p.birth<q.birth\/(p.birth=q.birth/\(p.ag<q.ag\/(p.ag=q.ag/\p.aa<q.aa))):=by
 have h1:=ZbY p.birth q.birth;have h2:=ZbY p.ag q.ag;have h3:=ZbY p.aa q.aa;have e1:=Zl9 p.birth q.birth;have e2:=Zl9 p.ag q.ag;unfold ltP or3;simp only [decide_eq_true_eq];split<;>(try split)<;>omega
end Go.Proofs.YtlfjdjndhcmliaaGreatDoor
namespace Go.Proofs
open Go.Shelf
def Tryz.sortP_ren:Go.Shelf.Ren:=⟨λ|6=>180|15=>224|14=>223|28=>252|29=>253|20=>244|21=>245|22=>246|23=>247|24=>248|25=>249|26=>250|27=>251|46=>264|47=>265|48=>266|49=>267|50=>268|57=>274|n=>n,λ|22=>149|24=>50|25=>278|3=>3|39=>293|0=>0|53=>338|55=>46|4=>4|46=>351|45=>350|50=>197|5=>5|9=>9|66=>363|70=>367|76=>379|77=>380|n=>n,λ|n=>n⟩
theorem Tryz.sortP:Go.Proofs.SlLaysF0.n6 Tryz.prog Tryz.sortP_ren:={
 mixed:=by kernel_rfl
 f6:=⟨Tryz.f180.name,by decide,Tryz.func180.trans (congrArg some (by kernel_rfl))⟩
 f14:=⟨Tryz.f223.name,by decide,Tryz.func223.trans (congrArg some (by kernel_rfl))⟩
 f15:=Tryz.func224.trans (congrArg some (by kernel_rfl))
 f20:=⟨Tryz.f244.name,by decide,Tryz.func244.trans (congrArg some (by kernel_rfl))⟩
 f21:=⟨Tryz.f245.name,by decide,Tryz.func245.trans (congrArg some (by kernel_rfl))⟩
 f22:=⟨Tryz.f246.name,by decide,Tryz.func246.trans (congrArg some (by kernel_rfl))⟩
 f23:=⟨Tryz.f247.name,by decide,Tryz.func247.trans (congrArg some (by kernel_rfl))⟩
 f24:=⟨Tryz.f248.name,by decide,Tryz.func248.trans (congrArg some (by kernel_rfl))⟩
 f25:=⟨Tryz.f249.name,by decide,Tryz.func249.trans (congrArg some (by kernel_rfl))⟩
 f26:=⟨Tryz.f250.name,by decide,Tryz.func250.trans (congrArg some (by kernel_rfl))⟩
 f27:=⟨Tryz.f251.name,by decide,Tryz.func251.trans (congrArg some (by kernel_rfl))⟩
 f28:=Tryz.func252.trans (congrArg some (by kernel_rfl))
 f29:=Tryz.func253.trans (congrArg some (by kernel_rfl))
 f46:=⟨Tryz.f264.name,by decide,Tryz.func264.trans (congrArg some (by kernel_rfl))⟩
 f47:=Tryz.func265.trans (congrArg some (by kernel_rfl))
 f48:=Tryz.func266.trans (congrArg some (by kernel_rfl))
 f49:=⟨Tryz.f267.name,by decide,Tryz.func267.trans (congrArg some (by kernel_rfl))⟩
 f50:=⟨Tryz.f268.name,by decide,Tryz.func268.trans (congrArg some (by kernel_rfl))⟩
 f57:=⟨Tryz.f274.name,by decide,Tryz.func274.trans (congrArg some (by kernel_rfl))⟩
 t0:=Tryz.underlying0
 a0:=Tryz.isAgg0
 z0:=Tryz.sizeOf0
 v0:=Tryz.zeroValue0
 t3:=Tryz.underlying3
 a3:=Tryz.isAgg3
 z3:=Tryz.sizeOf3
 v3:=Tryz.zeroValue3
 t4:=Tryz.underlying4
 a4:=Tryz.isAgg4
 z4:=Tryz.sizeOf4
 v4:=Tryz.zeroValue4
 t5:=Tryz.underlying5
 a5:=Tryz.isAgg5
 z5:=Tryz.sizeOf5
 v5:=Tryz.zeroValue5
 t9:=Tryz.underlying9
 a9:=Tryz.isAgg9
 z9:=Tryz.sizeOf9
 v9:=Tryz.zeroValue9
 t22:=Tryz.underlying149
 a22:=Tryz.isAgg149
 z22:=Tryz.sizeOf149
 v22:=Tryz.zeroValue149
 t25:=Tryz.underlying278
 a25:=Tryz.isAgg278
 z25:=Tryz.sizeOf278
 v25:=Tryz.zeroValue278
 t39:=Tryz.underlying293
 a39:=Tryz.isAgg293
 z39:=Tryz.sizeOf293
 v39:=Tryz.zeroValue293
 t45:=Tryz.underlying350
 a45:=Tryz.isAgg350
 z45:=Tryz.sizeOf350
 v45:=Tryz.zeroValue350
 t46:=Tryz.underlying351
 a46:=Tryz.isAgg351
 z46:=Tryz.sizeOf351
 v46:=Tryz.zeroValue351
 t50:=Tryz.underlying197
 a50:=Tryz.isAgg197
 z50:=Tryz.sizeOf197
 v50:=Tryz.zeroValue197
 t53:=Tryz.underlying338
 a53:=Tryz.isAgg338
 z53:=Tryz.sizeOf338
 v53:=Tryz.zeroValue338
 t55:=Tryz.underlying46
 a55:=Tryz.isAgg46
 z55:=Tryz.sizeOf46
 v55:=Tryz.zeroValue46
 t66:=Tryz.underlying363
 a66:=Tryz.isAgg363
 z66:=Tryz.sizeOf363
 v66:=Tryz.zeroValue363
 t70:=Tryz.underlying367
 a70:=Tryz.isAgg367
 z70:=Tryz.sizeOf367
 v70:=Tryz.zeroValue367
 t76:=Tryz.underlying379
 a76:=Tryz.isAgg379
 z76:=Tryz.sizeOf379
 v76:=Tryz.zeroValue379
 t77:=Tryz.underlying380
 a77:=Tryz.isAgg380
 z77:=Tryz.sizeOf380
 v77:=Tryz.zeroValue380 }
end Go.Proofs
namespace Go.Proofs.YtlfjdjndhcmliaaGreatDoor
open Go.RowKit Go.Sort Go.Shelf Go.Proofs
theorem ZcM(p q:Pt):ltOf Zcj p q=ltP p q:=by
 unfold ltOf Zcj;cases ltP p q<;>cases ltP q p<;>simp
theorem ZfY:SWO (ltOf Zcj) where
 irrefl x:=by rw [ZcM,Bool.eq_false_iff];intro h;rw [Zai]at h;omega
 trans x y z h1 h2:=by rw [ZcM,Zai]at *;omega
 ntrans x y z h1 h2:=by rw [ZcM,Bool.eq_false_iff,ne_eq,Zai]at *;omega
instance:Inhabited Pt:=⟨Pt.none⟩
def qB(p:Pt):List Value:=p.cs.toList
theorem U4(X:List Pt):(flatK qB 12 X.toArray).toList=(Y8 X).flatten:=by
 have hz:∀ y∈Y8 X,y.length=12:=λ y hy=>by
  obtain⟨p,_,rfl⟩:=List.mem_map.1 hy;rfl
 have hl:=Yy hz;have hpl:(Y8 X).length=X.length:=by simp [Y8]
 apply List.ext_getElem?;intro t
 by_cases ht:t<X.length*12
 ·have h1:=get_flatK qB 12 X.toArray t (by simpa using ht);have hk:t/12<X.length:=by omega
  have e:=QM (Y8 X) 12 (t/12) (t%12) X[t/12].cs.toList hz (by simp [Y8,hk]) (by omega);rw [show t/12*12+t%12=t by omega]at e;rw [e,Array.getElem?_toList,Array.getElem?_eq_getElem (by simpa using ht)];rw [getElem!_pos _ t (by simpa using ht)]at h1;rw [h1];have h2:t%12<X[t/12].cs.toList.length:=by have:X[t/12].cs.toList.length=12:=rfl;omega
  rw [List.getElem?_eq_getElem h2];simp only [qB,List.getElem!_toArray];rw [getElem!_pos X (t/12) hk,getElem!_pos X[t/12].cs.toList (t%12) h2]
 ·rw [List.getElem?_eq_none (by simp;omega),List.getElem?_eq_none (by rw [hl,hpl];omega)]
theorem ZfH(blk off size:Nat)(w:World):CmpLays Tryz.prog 181 #[] qB 12 Zcj blk off size w:=λ m os dk _ x y=>(Zg3 x y _).mono λ _ _ ⟨h1,h2⟩=>⟨h1,h2.sort⟩
theorem Uw(F cur:Array Value)(h:F.size<=cur.size):(putCells id 0 F cur).toList=F.toList++cur.toList.drop F.size:=by
 apply List.ext_getElem?;intro k;rw [List.getElem?_append,Array.getElem?_toList,List.getElem?_drop];unfold putCells;rw [Array.getElem?_mapIdx]
 by_cases hk:k<F.size
 ·have hc:k<cur.size:=by omega
  simp [hk,hc]
 ·simp [hk,show F.size+(k-F.size)=k by omega]
theorem Zi0(g cap c:Nat)(X:List Pt)(R:List (List Value))(hX:X.length<=1000000000) :
  Tu 180 #[.slice (some ⟨g,0,none⟩) X.length c,.func (.func 181) #[] #[]] (YC 50 12 g cap (Y8 X++R)) λ v h =>
   v=.tuple #[]/\∃ X',X'.Perm X/\YC 50 12 g cap (Y8 X'++R) h:=by
 intro W h hw r;obtain⟨cur,b1,b2,b3,b4,b5⟩:=r;have hg:=hw.get _ _ b1;have hold:g<W.heap.size:=(Array.getElem?_eq_some_iff.1 hg).1;have hpl:∀ Y:List Pt,(Y8 Y).length=Y.length:=λ Y=>by simp [Y8]
 have hlen:X.length*12<=cur.size:=by
  rw [b2];rw [List.length_append,hpl]at b5;omega
 have hF:∀ Y:List Pt,(flatK qB 12 Y.toArray).size=Y.length*12:=λ Y=>by simp
 have hz:∀ Y:List Pt,∀ y∈Y8 Y,y.length=12:=λ Y y hy=>by
  obtain⟨p,_,rfl⟩:=List.mem_map.1 hy;rfl
 have hfl:∀ Y:List Pt,(Y8 Y).flatten.length=Y.length*12:=λ Y=>by rw [Yy (hz Y),hpl]
 have hH:HoldsK qB 12 W g 0 X.toArray:=λ j hj=>by
  rw [hF]at hj
  have e:cur.toList[j]?=(Y8 X).flatten[j]?:=by
   have h1:(cur.toList.take ((Y8 X++R).length*12))[j]?=cur.toList[j]?:=by
    rw [List.getElem?_take,if_pos (by rw [List.length_append,hpl];omega)]
   rw [<-h1,b3,List.flatten_append,List.getElem?_append_left (by rw [hfl];omega)]
  rw [<-U4,Array.getElem?_toList,Array.getElem?_toList,Array.getElem?_eq_getElem (show j<(flatK qB 12 X.toArray).size by rw [hF];exact hj)]at e;refine⟨?_,?_⟩
  ·have h2:=getElem!_pos (flatK qB 12 X.toArray) j (by rw [hF];exact hj);rw [Nat.zero_add,Has.cell b1,h2]
   first|exact e|(rw [Array.getElem?_toList];exact e)
  ·simp [World.frozen?,hg]
 have S:=AnyQ.slices_SortFunc Tryz.sortP 12 Tryz.isAgg50 Tryz.sizeOf50 qB (λ _=>rfl) (λ x v hv=>by simp [qB,Pt.cs]at hv;rcases hv with rfl|rfl|rfl|rfl|rfl|rfl|rfl|rfl|rfl|rfl|rfl|rfl<;>rfl) Zcj ZfY 181 #[] g 0 c X.toArray W (λ args w=>enters_of Tryz.func181 (by kernel_rfl) rfl args w) (ZfH g 0 _ W) hH hold (by simp;omega);change Calls Tryz.prog 180 _ _ _ at S;simp only [List.size_toArray]at S;refine S.mono ?_;rintro _ _ ⟨rfl,d',n,os,⟨hs,_,hp⟩,_,rfl⟩;have hs':d'.toList.length=X.length:=by simpa using hs
 have hpm:d'.toList.Perm X:=by
  have h1:d'.extract 0 X.length=d':=by rw [Array.extract_eq_self_iff];simp at hs;omega
  have h2:X.toArray.extract 0 X.length=X.toArray:=by rw [Array.extract_eq_self_iff];simp
  rw [h1,h2]at hp;exact hp
 have hFs:(flatK qB 12 d').size=X.length*12:=by rw [size_flatK];simp at hs;rw [hs]
 have hFl:(flatK qB 12 d').toList=(Y8 d'.toList).flatten:=by rw [<-U4]
 generalize hc':putCells id 0 (flatK qB 12 d') cur=cur';have hcl:cur'.toList=(Y8 d'.toList).flatten++cur.toList.drop (X.length*12):=by rw [<-hc',Uw _ _ (by rw [hFs];exact hlen),hFl,hFs]
 have hcs:cur'.size=cur.size:=by rw [<-hc'];simp [putCells]
 generalize hw':sortWorldK qB 12 W g 0 n d' os=w'
 have hh:∀ k,k<W.heap.size->w'.heap[k]?=if k=g then some (.cells cur' 50)else W.heap[k]?:=λ k hk=>by
  rw [<-hw',sortWorldK,heap_grow_old _ _ (by simpa [putRowK,Sort.ahead]using hk),putRowK,putRow,mapBlock];simp only [Array.getElem?_modify,Sort.ahead]
  by_cases e:g=k
  ·subst e;rw [if_pos rfl,if_pos rfl,hg];simp only [Option.map_some,onCells];rw [hc']
  ·rw [if_neg e,if_neg (Ne.symm e)]
 refine⟨_,rfl,Zg.mk (h.put g (.cells cur' 50)) ⟨by rw [<-hw'];rfl,by rw [<-hw'];rfl,by rw [<-hw'];rfl,by rw [<-hw'];simp [sortWorldK,grow,putRowK,Sort.ahead],λ k hk e=>?_⟩ ⟨λ m o e=>?_⟩ (λ m hm e=>?_) ⟨rfl,d'.toList,hpm,cur',Hl.put_same ..,by rw [hcs,b2],?_,λ x hx=>?_,?_⟩⟩
 ·rw [hh k hk,if_neg (λ e2=>by rw [e2,b1]at e;cases e)]
 ·by_cases hm:m=g
  ·subst hm;rw [Hl.put_same]at e;cases e;rw [hh m hold,if_pos rfl]
  ·rw [Hl.put_other _ _ hm]at e;rw [hh m (hw.lt e),if_neg hm];exact hw.get m o e
 ·by_cases hm:m=g
  ·subst hm;rw [b1]at e;cases e
  ·rw [Hl.put_other _ _ hm];exact e
 ·rw [hcl,List.length_append,hpl,hs',List.flatten_append];have h1:(Y8 d'.toList).flatten.length=X.length*12:=by rw [hfl,hs']
  rw [Nat.add_mul,<- h1,List.take_length_add_append,h1]
  congr 1
  rw [List.length_append,hpl,Nat.add_mul,List.flatten_append]at b3
  have h2:(Y8 X).flatten=cur.toList.take (X.length*12):=by
   have:=congrArg (List.take (X.length*12)) b3;rw [List.take_take,Nat.min_eq_left (by omega),<- hfl X,List.take_left' rfl]at this;rw [<-hfl X];exact this.symm
  have h3:=congrArg (List.drop (X.length*12)) b3;rw [List.drop_take,Nat.add_sub_cancel_left,<- hfl X,List.drop_left' rfl]at h3;rw [<-hfl X];exact h3
 ·rcases List.mem_append.1 hx with h1|h1
  ·exact hz _ x h1
  ·exact b4 x (by simp [h1])
 ·rw [List.length_append,hpl]at b5 ⊢;rw [hs'];exact b5
theorem Zd9(p:Option Addr)(c:Nat)(fv:Value)(W:World):Calls Tryz.prog 180 #[.slice p 0 c,fv] W λ e w'=>e=.returned (.tuple #[])/\w'=W:=by
 have S:=AnyF.slices_SortFunc_none Tryz.sortP p c fv W;exact S
end Go.Proofs.YtlfjdjndhcmliaaGreatDoor
namespace Go.Proofs.YtlfjdjndhcmliaaGreatDoor
open Go.RowKit Go.Sort
def Qr(p:Pt):Int × Int:=(p.ag,p.aa)
def Kz(X:List Pt)(k:Nat)(x:Int × Int):Bool:=(X.take k).any λ q=>decide (x=Qr q)
theorem Zcs{X:List Pt}{k:Nat}{p:Pt}(hk:X[k]?=some p):Kz X (k+1)=Zav (Kz X k) (Qr p):=by
 funext y
 unfold Kz Zav;rw [List.take_add_one,hk,List.any_append]
 by_cases h:y=Qr p<;>simp [h]
theorem zW.new{n:Nat}{h:Hl}(hn:h n=some (.map #[] 0)):zW n 0 (λ _=>false) h :=
 ⟨#[],0,hn,⟨by simp,MapKept.stamped_empty 0,by simp⟩,by simp,⟨λ x l _ e=>(by cases e),λ x l _ _=>rfl⟩⟩
section
variable{W w:World}{h:Hl}{l:List SP}
instance ZmU(n:Nat)[B:Bt W h l w][z:Szw w n]:Bt W h (zW n 0 (λ _=>false)::l) (w.alloc (.map #[] 0)):=⟨by have e:=z.h;subst e;exact B.t.push _ (zW.new (QF _ _))⟩
theorem Bt.mapPut{C N:Nat}{g:Int × Int->Bool}{k:SP->List SP}{x:Int × Int}(hN:N<=1000000)(hx:wf2 x)(B:Bt W h l w)[m:Foc l (zW C N g) k]:∃ w',(Instr.mapUpdate 274 (.map (some C)) (qA x) (.bool true)).run Tryz.prog w=.ok () w'/\Bt W h (k (zW C (N+1) (Zav g x))) w':=by
 obtain⟨m',h1,j,e0,s⟩:=B.t;obtain⟨i,e,hk⟩:=m.e;obtain⟨h0,a,b,c⟩:=s.focus e;haveI:=j.sub b;obtain⟨w',hr,T⟩:=ZgD a hN w hx;refine⟨w',hr,?_⟩;rw [hk];exact⟨Zg.after m' e0 (((T.mono λ _ s=>s.1).frame j b).mono λ h' ⟨h1,q1,q2,q3⟩=>c _ h1 h' q1 q2 q3)⟩
end
theorem ZhQ(p:Pt)(m C N:Nat)(g:Int × Int->Bool)(hN:N<=1000000)(hx:wf2 (Qr p)):Tq 179 #[.agg p.cs,.pointer (some ⟨m,0,none⟩)] (star [Zd m #[.map (some C)] 274,zW C N g]) λ v q =>
  v=.bool (g (Qr p))/\q=star [Zd m #[.map (some C)] 274,zW C (N+1) (Zav g (Qr p))]:=by
 refine Tq.of λ W h B=>?_
 replace B:=B.flat;simp only [List.cons_append,List.nil_append]at B;simp only [Pt.cs];have B1:Bt W h [Zd W.heap.size _ _,Zd m #[.map (some C)] 274,zW C N g] (W.alloc (.cells p.cs 50)):=ii
 have LK:(Instr.lookup 274 (.map (some C)) (qA (Qr p)) false).run Tryz.prog (W.alloc (.cells p.cs 50))=.ok (.bool (g (Qr p))) (W.alloc (.cells p.cs 50)):=by
  obtain⟨h0,q,j⟩:=B1.mem (i:=2) rfl;exact Zd3 q _ hx
 obtain⟨W2,PU,B2⟩:=Bt.mapPut (C:=C) (g:=g) hN hx B1;generalize g (Qr p)=b at LK ⊢;simp only [qA,Qr,Pt.cs]at LK PU
 go_in
 go_wp2_with((with_reducible apply Za);(·exact rfl);(·exact ii));go_ret;exact⟨_,_,rfl,⟨rfl,rfl⟩,((B2.ord [1,2,0] (by kernel_rfl)).app [_,_]).fin_at 0 rfl⟩
def XZ(X:List Pt):List Pt:=((List.range X.length).filter λ k=>!Kz X k (Qr X[k]!)).map λ k=>X[k]!
theorem Vi{X:List Pt}{p:Pt}(h:p∈XZ X):p∈X:=by
 obtain⟨k,hk,rfl⟩:=List.mem_map.1 h;have hk:=List.mem_range.1 (List.mem_filter.1 hk).1;rw [getElem!_pos X k hk];exact List.getElem_mem hk
theorem Vd{X:List Pt}:∀(n k:Nat),k<=n->∀ hk:k<X.length,∃ q∈XZ X,Qr q=Qr X[k]
 |n,k,hn,hk=>by
  cases hs:Kz X k (Qr X[k]!)with
  |false =>
   refine⟨X[k]!,List.mem_map.2 ⟨k,List.mem_filter.2 ⟨List.mem_range.2 hk,by rw [hs];rfl⟩,rfl⟩,by rw [getElem!_pos X k hk]⟩
  |true =>
   obtain⟨q,h1,h2⟩:=List.any_eq_true.1 hs;obtain⟨j,hj,rfl⟩:=List.mem_take_iff_getElem.1 h1;have h2:=of_decide_eq_true h2;rw [getElem!_pos X k hk]at h2;cases n with
   |zero=>omega
   |succ n =>
    obtain⟨q,h3,h4⟩:=Vd (X:=X) n j (by omega) (by omega);exact⟨q,h3,by rw [h4,h2]⟩
theorem Zfs{X:List Pt}{p:Pt}(h:p∈X):∃ q∈XZ X,Qr q=Qr p:=by
 obtain⟨k,hk,rfl⟩:=List.mem_iff_getElem.1 h;exact Vd k k (Nat.le_refl _) hk
theorem qN(X:List Pt):(XZ X).length<=X.length:=by
 unfold XZ;rw [List.length_map];exact Nat.le_trans (List.length_filter_le ..) (by simp)
theorem Zgu(X:List Pt):((XZ X).map Qr).Nodup:=by
 unfold XZ;rw [List.map_map];refine List.pairwise_map.2 ?_;have h:(List.range X.length).Pairwise (·< ·):=List.pairwise_lt_range;refine((h.filter (λ k=>!Kz X k (Qr X[k]!))).imp_of_mem ?_);intro i j hi hj hij e;obtain⟨hj1,hj2⟩:=List.mem_filter.1 hj;have hjl:=List.mem_range.1 hj1;have hn:Kz X j (Qr X[j]!)=true:=List.any_eq_true.2 ⟨X[i]!,List.mem_take_iff_getElem.2 ⟨i,by omega,by rw [getElem!_pos X i (by omega)]⟩,decide_eq_true e.symm⟩;rw [hn]at hj2;cases hj2
theorem Zic(X:List Pt):stay (λ k=>Kz X k (Qr X[k]!)) (Y8 X)=Y8 (XZ X):=by
 unfold stay XZ Y8;rw [List.length_map,List.map_map];refine List.map_congr_left λ k hk=>?_
 have hk:=List.mem_range.1 (List.mem_filter.1 hk).1;simp [getElem!_pos,hk]
set_option maxRecDepth 512 in
theorem Zin(f:FuncId)(q:XB Tryz.prog f=true)(cp:Array Value)(W:World) :
  Calls Tryz.prog 178 #[.slice none 0 0,.func (.func f) #[] cp] W λ e w'=>e=.returned (.slice none 0 0)/\∃ g,w'=gr W g:=by
 have IX:=ZmW none 0 0 [] W (by omega) f q cp (λ _=>false) (λ _ w=>∃ g,w=gr W g) ⟨⟨W.drawn,#[]⟩,(ZaT W).symm⟩ (λ k w _=>⟨rfl,λ k x e=>by simp at e⟩) (λ k x w e=>by simp at e) (by simp);have hrun:=λ args w=>Z9 (P:=Tryz.prog) q args w
 go_in
 go_wp2_with fail;refine IX.mono ?_;rintro _ w1 ⟨k,rfl,hk,ha,hb,g1,rfl⟩;obtain rfl:k=0:=by omega
 simp only [zX,Nat.lt_irrefl,if_false];go_wp2_with fail;go_ret;exact⟨rfl,g1,rfl⟩
theorem Zj5(X:List Pt)(hX:X.length<=100000)(hwf:∀ p∈X,wf2 (Qr p))(ad:Option Addr)(cap m C:Nat) :
  Tq 178 #[.slice ad X.length cap,.func (.func 179) #[] #[.pointer (some ⟨m,0,none⟩)]] (star [Zw 50 12 ad X.length cap (Y8 X),Zd m #[.map (some C)] 274,zW C 0 λ _=>false]) λ v q =>
   v=.slice ad (XZ X).length cap/\q=Zw 50 12 ad (XZ X).length cap (Y8 (XZ X)):=by
 refine Tq.of λ W h B=>?_
 replace B:=B.flat;simp only [List.cons_append,List.nil_append]at B;obtain⟨h0,⟨q1,q2,q3⟩,j0⟩:=B.mem (i:=0) rfl;rcases q3 with ⟨rfl,e2,rfl⟩|⟨g,rfl,hcap,hr⟩
 ·have e3:X=[]:=List.eq_nil_of_length_eq_zero e2;subst e3;refine(Zin 179 (by kernel_rfl) _ W).mono ?_;rintro _ _ ⟨rfl,g1,rfl⟩;have B1:Bt W h _ (gr W g1):=ii;exact⟨_,_,rfl,⟨rfl,rfl⟩,B1.fin_at 0 rfl⟩
 ·have hxl:(Y8 X).length=X.length:=by simp [Y8]
  have B1:=B.head (q:=YC 50 12 g cap (Y8 X)) λ h' ⟨a,b,c⟩=>by
   rcases c with ⟨c1,_⟩|⟨g',c1,_,c3⟩
   ·cases c1
   ·cases c1;exact c3
  have B2:=(B1.ord [1,2,0] (by kernel_rfl)).app [_,_];have B3:Bt W h [star [YC 50 12 g cap (Y8 X),star [Zd m #[.map (some C)] 274,zW C 0 (Kz X 0)]]] W:=(B2.ord [1,0] (by kernel_rfl)).app [_,_]
  have D:=Zpd g cap (Y8 X) (by omega) (by simp [Y8,Pt.cs]) (λ x hx v hv=>by
   obtain⟨p,_,rfl⟩:=List.mem_map.1 hx;simp [Pt.cs]at hv
   rcases hv with rfl|rfl|rfl|rfl|rfl|rfl|rfl|rfl|rfl|rfl|rfl|rfl<;>rfl) 179 (by kernel_rfl) #[.pointer (some ⟨m,0,none⟩)] (λ k=>Kz X k (Qr X[k]!))
   (λ k=>star [Zd m #[.map (some C)] 274,zW C k (Kz X k)]) (λ k x hx=>by
    have hk:k<X.length:=by have:=(List.getElem?_eq_some_iff.1 hx).1;omega
    have ex:x=X[k].cs.toList:=by simpa [Y8,hk]using hx.symm
    subst ex;have hp:=hwf X[k] (List.getElem_mem hk);have T:=(ZhQ X[k] m C k (Kz X k) (by omega) hp).u;rw [getElem!_pos X k hk,Zcs (List.getElem?_eq_getElem hk)]
    exact T)
  rw [hxl,Zic]at D;have el:(Y8 (XZ X)).length=(XZ X).length:=by simp [Y8]
  rw [el]at D;refine(Bt.call D.q (B:=B3)).mono ?_;rintro _ w1 ⟨v,q,rfl,rfl,B4⟩;obtain⟨rfl,B5⟩:=B4.pure;obtain⟨L,B6⟩:=B5.ex;obtain⟨e1,B7⟩:=B6.pure;obtain⟨e2,B8⟩:=B7.pure;have B9:=B8.flat;have B10:=B9.head (q:=Zw 50 12 (some ⟨g,0,none⟩) (XZ X).length cap (Y8 (XZ X))) λ h' r=>⟨el,by simp [Y8,Pt.cs],.inr ⟨g,rfl,hcap,r.cut (XZ X).length (by have:=qN X;omega) e1⟩⟩
  exact⟨_,_,rfl,⟨rfl,rfl⟩,B10.fin_at 0 rfl⟩
theorem Zju(Y:List Pt)(hY:Y.length<=100000)(ad:Option Addr)(cap:Nat) :
  Tq 180 #[.slice ad Y.length cap,.func (.func 181) #[] #[]] (Zw 50 12 ad Y.length cap (Y8 Y)) λ v q =>
   v=.tuple #[]/\∃ Z,Z.Perm Y/\q=Zw 50 12 ad Y.length cap (Y8 Z):=by
 refine Tq.of λ W h B=>?_
 obtain⟨h0,⟨q1,q2,q3⟩,j0⟩:=B.mem (i:=0) rfl;rcases q3 with ⟨rfl,e2,rfl⟩|⟨g,rfl,hcap,hr⟩
 ·have e3:Y=[]:=List.eq_nil_of_length_eq_zero e2;subst e3;refine(Zd9 none 0 _ W).mono ?_;rintro _ _ ⟨rfl,rfl⟩;exact⟨_,_,rfl,⟨rfl,_,List.Perm.refl _,rfl⟩,B.fin_at 0 rfl⟩
 ·have B1:=B.head (q:=YC 50 12 g cap (Y8 Y++[])) λ h' ⟨a,b,c⟩=>by
   rcases c with ⟨c1,_⟩|⟨g',c1,_,c3⟩
   ·cases c1
   ·cases c1;rw [List.append_nil];exact c3
  refine(Bt.call (Zi0 g cap cap Y [] (by omega)).q (B:=B1)).mono ?_;rintro _ w1 ⟨v,q,rfl,rfl,B4⟩;obtain⟨rfl,B5⟩:=B4.pure;obtain⟨Z,B6⟩:=B5.ex;obtain⟨hp,B7⟩:=B6.pure;refine⟨_,_,rfl,⟨rfl,Z,hp,rfl⟩,(B7.head λ h' r=>⟨by simp [Y8,hp.length_eq],by simp [Y8,Pt.cs],.inr ⟨g,rfl,hcap,by rw [List.append_nil]at r;exact r⟩⟩).fin_at 0 rfl⟩
theorem Zjt(X:List Pt)(hX:X.length<=100000)(hwf:∀ p∈X,wf2 (Qr p))(ad:Option Addr)(cap:Nat) :
  Tq 130 #[.slice ad X.length cap] (Zw 50 12 ad X.length cap (Y8 X)) λ v q=>∃ Z,v=.slice ad Z.length cap/\Z.Perm (XZ X)/\q=Zw 50 12 ad Z.length cap (Y8 Z):=by
 refine Tq.of λ W h B=>?_
 have DT:=λ m C=>Zj5 X hX hwf ad cap m C
 have ST:=Zju (XZ X) (by have:=qN X;omega) ad cap;have hmm:∀ W:World,(Instr.makeMap 274 none).run Tryz.prog W=.ok (.map (some W.heap.size)) (W.alloc (.map #[] 0)):=λ W=>by kernel_rfl
 go_in
 go_wp2_with fail;have B1:Bt W h [Zd (W.heap.size+1) #[.map (some W.heap.size)] 274,zW W.heap.size 0 (λ _=>false),Zw 50 12 ad X.length cap (Y8 X)] ((W.alloc (.map #[] 0)).alloc (.cells #[.map (some W.heap.size)] 274)):=ii;refine(Bt.call (DT (W.heap.size+1) W.heap.size) (B:=(B1.ord [2,0,1] (by kernel_rfl)).app [_,_,_])).mono ?_;rintro _ w1 ⟨v,q,rfl,⟨rfl,rfl⟩,B2⟩;clear B1 B DT;dsimp only at B2 ⊢;go_wp2_with fail;refine(Bt.call ST (B:=B2)).mono ?_;rintro _ w2 ⟨v,q,rfl,⟨rfl,Z,hp,rfl⟩,B3⟩;clear B2 ST;dsimp only at B3 ⊢;go_wp2_with fail;go_ret;refine⟨_,_,rfl,⟨Z,by rw [hp.length_eq];rfl,hp,rfl⟩,?_⟩;rw [hp.length_eq];exact B3.fin_at 0 rfl
instance Zqg:Jl 223 52 13 104:=Qj Tryz.underlying223 (by kernel_rfl) (by omega)
theorem Zlj{n z:Nat}{cs:Array Value}{t:TypeId}{h:Hl}(hz:cs.size=z)(e:Zd n cs t h):Zw t z (some ⟨n,0,none⟩) 1 1 [cs.toList] h :=
 ⟨rfl,by simp [hz],.inr ⟨n,rfl,by unfold maxLen;omega,cs,e,by omega,by rw [List.length_singleton,Nat.one_mul,List.take_of_length_le (by simp [hz])];simp,by simp [hz],Nat.le_refl _⟩⟩
theorem ZdQ{x:Int}(h0:0<=x)(h1:x<=4294967296):(Lit.int .i64 x).wf=true:=by
 have e1:IntKind.i64.min=-9223372036854775808:=by decide
 have e2:IntKind.i64.max=9223372036854775807:=by decide
 simp [Lit.wf,e1,e2];omega
def ndC(Y:List Nd):List (List Value):=Y.map λ n=>n.cs.toList
section
variable{V:VD}{pb txg:Nat}{root live:Nd}{l:List Sn}{K:KS}{C:Nat}
theorem Zia(ht:txg+1<=4294967295)(hl:l.length<=4)(hC9:C<=1000000000){g0:Nat->UInt8}(o0:Ob K root g0)(ds:List Nd)(hds:live::l.map Sn.dir=ds)(Ts:Nat->Yt)(hTs:∀ j n,ds[j]?=some n->jX K n (Ts j))
  (sa:Option Addr) (scap:Nat) (ra:Option Addr) (rcap:Nat) (ow:Option Addr) (bk:Nat) (sb:ZO) (N:Nat) (F:Nat->Nat->ByteArray) (ms:List MD) (es:List Nat) (ok:Qu V sb K C N F ms) :
  Tq 72 #[pV pb] (star (yI V pb txg root live l sa scap ra rcap (some ⟨bk,0,none⟩) none ow bk sb N F ms es)) λ v q=>∃(Z:List Pt)(ad:Option Addr)(cap:Nat)(N':Nat)(F':Nat->Nat->ByteArray)(ms':List MD)(es':List Nat),
   v=.tuple #[.slice ad Z.length cap,.int .i64 0]/\(Qu V sb K C N' F' ms'/\Z.length<=20000/\(jF K Z/\(Z.map Qr).Nodup)/\Ob (K.on Z) root g0/\∀ j n,ds[j]?=some n->jX (K.on Z) n (Ts j))/\q=star [star (yI V pb txg root live l sa scap ra rcap (some ⟨bk,0,none⟩) none ow bk sb N' F' ms' es'),Zw 50 12 ad Z.length cap (Y8 Z)]:=by
 refine Tq.of λ W h B0=>?_
 have B:=B0.flat;simp only [yI,List.cons_append,List.nil_append]at B;have gd:ZT V.s V.secs:=by haveI:=Z0 (i:=4) B rfl;exact(Zo V F W).1.g
 have GD:=Lib.hid gd;clear gd;clear B0;have PS:=λ(w:World) (_:Zh w pb (X7 V txg root live (.slice sa l.length scap) (.slice ra V.ds.length rcap) (pV bk) (.pointer none) (.pointer ow)))=>zx V pb bk txg (txg+1) 0 rfl (by omega) root live _ _ _ _ w
 go_in
 go_wp2_with fail;refine(PS _ ii).mono ?_;rintro e w2 ⟨st,rfl,hg,hn⟩;have B1:=Bt.join (W:=W) (h:=h) (l:=[Zd pb (X7 V txg root live (.slice sa l.length scap) (.slice ra V.ds.length rcap) (pV bk) (.pointer none) (.pointer ow)) 82,Zw 125 15 sa l.length scap (Ye l),Zw 92 2 ra V.ds.length rcap (YU V.ds.length),ZV bk sb V.secs ms es,ZE V N F,X9 sb]) ii hg hn;clear hg hn B PS;dsimp only;have B2:=B1.more (p:=Ul (.pointer none) C) (.inl ⟨rfl,hC9⟩);have B3:=Bt.oS (B2) [0,7,5,6,4,1,2,3];have B4:Bt W h (Qe V st bk sb (txg+1) 0 false K C::_) w2:=(B3.app [_,_,_,_,_]).head λ h s=>⟨_,N,F,ms,es,ok,s⟩
 clear B1 B2 B3;have T2:=Qn (V:=V) (st:=st) (bb:=bk) (sb:=sb) (txg:=txg+1) (keep:=0) (meta_:=false) (by omega) (by omega);have A0:=ZcI T2 K C o0;go_wp2_with((with_reducible apply Za);(·exact rfl);(·exact ii));refine(Bt.call A0).mono ?_;rintro e w3 ⟨v,q,rfl,⟨X0,ad0,cap0,⟨rfl,rfl⟩,hX0⟩,B5⟩;clear B4 A0;dsimp only;have HX0:=Lib.hid hX0;clear hX0;have B6:=B5.flat;clear B5;simp only [List.cons_append,List.nil_append]at B6;go_wp2_with((with_reducible apply Za);(·exact rfl);(·exact ii));refine Yn (W:=W) (h:=h) (l:=[Zd w3.heap.size live.cs 52,Qe V st bk sb (txg+1) 0 false K C,Zw 50 12 ad0 X0.length cap0 (Y8 X0),Zd pb (X7 V txg root live (.slice sa l.length scap) (.slice ra V.ds.length rcap) (pV bk) (.pointer none) (.pointer ow)) 82,Zw 125 15 sa l.length scap (Ye l),Zw 92 2 ra V.ds.length rcap (YU V.ds.length)]) ii ?_;clear B6;intro w4 B6;have B7:Bt W h (Zw 52 13 (some ⟨w3.heap.size,0,none⟩) 1 1 (ndC [live])::_) w4:=B6.head λ h' e=>Zlj rfl e
 clear B6
 go_loopw [7,44] (λ ov iv wr=>∃(k:Nat)(ad:Option Addr)(cap:Nat),k<=l.length/\iv=.int .i64 k/\ov=.slice ad (k+1:Nat) cap/\Bt W h [Zw 52 13 ad (k+1) cap (ndC (live::(l.take k).map Sn.dir)),Qe V st bk sb (txg+1) 0 false K C,Zw 50 12 ad0 X0.length cap0 (Y8 X0),Zd pb (X7 V txg root live (.slice sa l.length scap) (.slice ra V.ds.length rcap) (pV bk) (.pointer none) (.pointer ow)) 82,Zw 125 15 sa l.length scap (Ye l),Zw 92 2 ra V.ds.length rcap (YU V.ds.length)] wr)
  (λ _ iv _=>l.length-(intOf iv).toNat)
 case atStart=>exact⟨0,_,_,Nat.zero_le _,rfl,rfl,B7⟩
 case round =>
  clear B7;obtain⟨k,ad,cap,hk,rfl,rfl,B⟩:=hrel
  by_cases hlt:k<l.length
  ·obtain⟨x,hx⟩:∃ x,l[k]?=some x:=⟨_,List.getElem?_eq_getElem hlt⟩
   obtain⟨b,o,rfl,hb,hc⟩:=(Yo B (i:=4) rfl).1.cells k x.cs (by simp [Ye,hx]);haveI:ZJ b (o+k*15) (#[.int .i64 x.id,.int .i64 x.txg,.int .i64 x.dir.size,.int .i64 x.dir.root.ag,.int .i64 x.dir.root.aa,.int .i64 x.dir.root.bg,.int .i64 x.dir.root.ba,.bool x.dir.root.two,.int .i64 x.dir.root.size,.int .i64 x.dir.root.level,.int .i64 x.dir.root.birth,.int .u64 x.dir.root.sum.a,.int .u64 x.dir.root.sum.b,.int .u64 x.dir.root.sum.c,.int .u64 x.dir.root.sum.d]) 15 wr:=⟨rfl,hb,λ j v e=>hc j v e⟩
   have e3:ndC (live::(l.take (k+1)).map Sn.dir)=ndC (live::(l.take k).map Sn.dir)++[x.dir.cs.toList]:=by rw [List.take_add_one,hx];simp [ndC]
   have E3:=Lib.hid e3;clear hc hx e3;go_wp2_with(first|(at_builtin;(with_reducible apply ZI);(·exact rfl);(·exact rfl);(·exact ii);(·exact ii);(·exact ii);(·exact rfl);(·decide);(·omega);intro gA capA wA bA;(try dsimp only at bA))|((with_reducible apply Za);(·exact rfl);(·exact ii))|((with_reducible apply Zb);(·exact rfl);(·exact rfl);(·exact ii)));refine⟨⟨k+1,some ⟨gA,0,none⟩,capA,hlt,by go_num,rfl,?_⟩,by simp [intOf];omega⟩;rw [E3.out];exact bA.drop.drop
  ·obtain rfl:l.length=k:=by omega
   rw [List.take_length,hds]at B;have hdl:ds.length=l.length+1:=by rw [<-hds];simp
   have hTl:l.length+1<=5:=by omega
   have Hds:=Lib.hid hds;have Hdl:=Lib.hid hdl;clear hds hdl;go_wp2_with fail
   go_loopw [5,56] (λ ov iv wr=>∃(k:Nat)(X:List Pt)(ad1:Option Addr)(cap1:Nat),k<=l.length+1/\iv=.int .i64 k/\ov=.slice ad1 X.length cap1/\(X.length<=3000*(k+1)/\jF K X/\(K.on X0).le (K.on X)/\∀ j n,j<k->ds[j]?=some n->jX (K.on X) n (Ts j)) /\
     Bt W h [Zw 52 13 ad (l.length+1) cap (ndC ds),Qe V st bk sb (txg+1) 0 false K C,Zw 50 12 ad1 X.length cap1 (Y8 X),Zd pb (X7 V txg root live (.slice sa l.length scap) (.slice ra V.ds.length rcap) (pV bk) (.pointer none) (.pointer ow)) 82,Zw 125 15 sa l.length scap (Ye l),Zw 92 2 ra V.ds.length rcap (YU V.ds.length)] wr)
    (λ _ iv _=>l.length+1-(intOf iv).toNat)
   case atStart =>
    refine⟨0,X0,ad0,cap0,Nat.zero_le _,rfl,rfl,⟨?_,HX0.out.2.1,KS.le.refl _,λ j n h=>absurd h (by omega)⟩,B⟩;have h1:=HX0.out.1;have hlv:=Ks root.size;have h2:=ZcT (n:=(zN root.size).toNat) (by omega);omega
   case round =>
    clear B;obtain⟨k,X,ad1,cap1,hk,rfl,rfl,⟨hX1,hX2,hX3,hX4⟩,B⟩:=hrel
    by_cases hlt:k<l.length+1
    ·obtain⟨n,hn⟩:∃ n,ds[k]?=some n:=⟨_,List.getElem?_eq_getElem (by rw [Hdl.out];exact hlt)⟩
     obtain⟨b,o,rfl,hb,hc⟩:=(Yo B (i:=0) rfl).1.cells k n.cs.toList (by simp [ndC,hn]);haveI:ZJ b (o+k*13) n.cs 13 wr:=⟨rfl,hb,λ j v e=>hc j v e⟩
     have DA:=Zj3 T2 K C (hTs k n hn);have Hn:=Lib.hid hn;have H2:=Lib.hid hX2;have H3:=Lib.hid hX3;have H4:=Lib.hid hX4;clear hc hn hX2 hX3 hX4;go_wp2_with(first|((with_reducible apply Za);(·exact rfl);(·exact ii))|((with_reducible apply Zb);(·exact rfl);(·exact rfl);(·exact ii)));refine(Bt.call DA).mono ?_;rintro e w5 ⟨v,q,rfl,⟨Y,ad2,cap2,rfl,hY,rfl⟩,B1⟩;clear B DA;dsimp only;have HY:=Lib.hid hY;have hYl:=hY.1;clear hY;have B2:=Bt.oS (B1) [2,0,1,3,4,5,6];have B4:=B2.flat;clear B1 B2;simp only [List.cons_append,List.nil_append]at B4;have rY:=Yo B4 (i:=1) rfl;have hXY:X.length+Y.length<=1000000000:=by omega
     go_wp2_with(at_builtin;(refine ZN (ts:=149) B4 rfl rfl ii rY.1 rY.2.2 (Zkt Y) (Zdb Y) hXY (by decide) ?_);intro adA capA wA bA);rw [Zdy,<- List.length_append]at bA;refine⟨⟨k+1,X++Y,adA,capA,hlt,by go_num,by rw [List.length_append],⟨by rw [List.length_append];omega,H2.out.app HY.out.2.1,H3.out.trans ZjU,λ j n' hj hn'=>?_⟩,?_⟩,by simp [intOf];omega⟩
     ·rcases Nat.lt_or_ge j k with h|h
      ·exact(H4.out j n' h hn').mono ZjU
      ·obtain rfl:j=k:=by omega
       have e1:n'=n:=by have:=Hn.out;rw [this]at hn';exact(Option.some.inj hn').symm
       subst e1;exact HY.out.2.2.mono Zmh
     ·have B5:=Bt.oS (bA) [1,2,3,0,4,5,6,7];exact B5.drop.drop
    ·obtain rfl:l.length+1=k:=by omega
     have hXl:X.length<=20000:=by omega
     have hwf:∀ p∈X,wf2 (Qr p):=λ p hp=>by
      obtain⟨_,t,hk⟩:=hX2 p hp;have f:=Pt.fit_in (ok.kept.held p t hk).fit;exact⟨ZdQ (x:=p.ag) f.1.1 (by have:=f.1.2;omega),ZdQ (x:=p.aa) f.2.1.1 (by have:=f.2.1.2;omega)⟩
     have OT:=Zjt X (by omega) hwf ad1 cap1
     have hcov:∀ Z:List Pt,Z.Perm (XZ X)->(K.on X).le (K.on Z):=λ Z hZ q t ⟨h1,h2⟩=>by
      refine⟨h1,hZ.mem_iff.2 ?_⟩;obtain⟨q',h3,h4⟩:=Zfs h2;obtain⟨_,t',h5⟩:=hX2 q' (Vi h3);have h6:=ok.kept.uni GD.out q' q t' t h5 h1 (congrArg Prod.fst h4) (congrArg Prod.snd h4);rw [<-h6];exact h3
     have Hc:=Lib.hid hcov;have H2:=Lib.hid hX2;have H3:=Lib.hid hX3;have H4:=Lib.hid hX4;have O0:=Lib.hid o0;clear hcov hwf hX2 hX3 hX4 o0 hTs;go_wp2_with fail;refine(Bt.call OT).mono ?_;rintro e w6 ⟨v,q,rfl,⟨Z,rfl,hZ,rfl⟩,B1⟩;clear B OT;dsimp only;have HZ:=Lib.hid hZ;clear hZ;go_wp2_with fail;go_ret2;refine XE (W:=W) (h:=h) (l:=[Zw 52 13 ad (l.length+1) cap (ndC ds),Qe V st bk sb (txg+1) 0 false K C,Zw 50 12 ad1 Z.length cap1 (Y8 Z),Zd pb (X7 V txg root live (.slice sa l.length scap) (.slice ra V.ds.length rcap) (pV bk) (.pointer none) (.pointer ow)) 82,Zw 125 15 sa l.length scap (Ye l),Zw 92 2 ra V.ds.length rcap (YU V.ds.length)]) ii λ w9 B9=>?_
     have B10:=Bt.oS (B9) [1,0,2,3,4,5];obtain⟨dn,N',F',ms',es',ok',B11⟩:=B10.opn;have B12:=Bt.oS (B11) [7,8,9,4,2,3,6,0,1,5];have B13:=(B12.app [_,_,_,_,_,_]).app [_,_];have hzx:∀ q∈Z,q∈X:=λ q hq=>Vi (HZ.out.mem_iff.1 hq)
     have hzl:Z.length<=X.length:=by rw [HZ.out.length_eq];exact qN X
     refine⟨_,⟨Z,ad1,cap1,N',F',ms',es',rfl,⟨ok',by omega,⟨λ q hq=>H2.out q (hzx q hq),((HZ.out.map Qr).nodup_iff).2 (Zgu X)⟩,?_,λ j n hn=>?_⟩,rfl⟩,B13.fin_at 0 rfl⟩
     ·have tr:Tr (K.on X0) (zN root.size).toNat root.root g0:=HX0.out.2.2;exact⟨O0.out.sz,(tr.mono H3.out).mono (Hc.out Z HZ.out),O0.out.z⟩
     ·exact(H4.out j n (by have:=(List.getElem?_eq_some_iff.1 hn).1;rw [Hdl.out]at this;exact this) hn).mono (Hc.out Z HZ.out)
end
section
variable{V:VD}{pb txg:Nat}{root live:Nd}{l:List Sn}{K:KS}{C:Nat}
theorem J9.same{a b:ZO}{secs:Int}{p:Pt}(o:J9 b secs p)(k:X6 a b):J9 a secs p :=
 ⟨o.lv,o.bt,by rw [k.may];exact o.a,o.one,λ h=>by rw [k.may,k.tak,k.tak];exact o.b h⟩
theorem ZcG{a b:ZO}(k:X6 a b){z:Int}{l:List (Nat × Nat)}{g u:Nat}:takeN a z l g u↔takeN b z l g u:=by
 unfold takeN;simp only [k.tak]
theorem VL{s:ZO}{p:Pt}(hf:p.fit){g u:Nat}:Xy s p g u↔takeN s p.size (plN p) g u:=by
 have f:=Pt.fit_in hf;unfold Xy takeN plN;cases h:p.two
 ·simp [Int.toNat_of_nonneg f.1.1]
 ·simp [Int.toNat_of_nonneg f.1.1,Int.toNat_of_nonneg f.2.2.1.1]
theorem UZ(ht:txg+1<=4294967295)(hl:l.length<=4)(hC9:C<=1000000000){g0:Nat->UInt8}(o0:Ob K root g0)(ds:List Nd)(hds:live::l.map Sn.dir=ds)(Ts:Nat->Yt)(hTs:∀ j n,ds[j]?=some n->jX K n (Ts j))
  (sa:Option Addr) (scap:Nat) (ra:Option Addr) (rcap:Nat) (ow:Option Addr) (bk:Nat) (sb:ZO) (N:Nat) (F:Nat->Nat->ByteArray) (ms:List MD) (es:List Nat) (ok:Qu V sb K C N F ms) :
  Tq 30 #[pV pb] (star (yI V pb txg root live l sa scap ra rcap (some ⟨bk,0,none⟩) none ow bk sb N F ms es)) λ v q =>
   ∃(Z:List Pt)(bk':Nat)(sb':ZO)(N':Nat)(F':Nat->Nat->ByteArray)(ms':List MD)(es':List Nat),
    v=.int .i64 0/\(Qu V sb' (K.on Z) C N' F' ms'/\Ob (K.on Z) root g0/\(∀ j n,ds[j]?=some n->jX (K.on Z) n (Ts j))/\∀ p t,K p t->Held V.s V.secs F' p t)/\q=star (yI V pb txg root live l sa scap ra rcap (some ⟨bk',0,none⟩) none ow bk' sb' N' F' ms' es'):=by
 refine Tq.of λ W h B=>?_
 have RC:=Zia (V:=V) (pb:=pb) (root:=root) ht hl hC9 o0 ds hds Ts hTs sa scap ra rcap ow bk sb N F ms es ok;clear hds hTs o0 ok
 go_in
 go_wp2_with fail;refine(Bt.call RC).mono ?_;rintro e w1 ⟨v,q,rfl,⟨Z,ad,cap,N1,F1,ms1,es1,rfl,hR,rfl⟩,B1⟩;clear B RC;dsimp only;obtain⟨ok1,hZl,⟨hZ,hZn⟩,hR⟩:=hR;have HZn:=Lib.hid hZn;clear hZn;have B2:=B1.flat;have B3:=B2.flat;clear B1 B2;simp only [yI,List.cons_append,List.nil_append]at B3;have HR:=Lib.hid hR;have Ok1:=Lib.hid ok1;clear hR ok1;haveI DV:=Z0 (i:=4) B3 rfl;have df:=Zo V F1 w1;haveI:Ky V.s V.secs:=⟨df.1.g⟩
 haveI:GM V.s w1:=df.2.1;have AN:=λ(w:World)(_:GM V.s w)(hb:V.s.blk<w.heap.size)=>Zc6 V.s V.secs w hb
 have hb0:V.s.blk<w1.heap.size:=(df.2.1.isOld (k:=0) (by have:=df.1.g.1;omega)).h;clear df;go_wp2_with((with_reducible apply Za);(·exact rfl);(·exact ii));refine(AN _ ii hb0).mono ?_;rintro e w2 ⟨bb,g2,cap2,bs,rfl,hg,hn⟩;have B4:=(B3.join hg hn).flat;clear B3 hg hn AN hb0 DV;dsimp only;simp only [List.cons_append,List.nil_append]at B4;generalize hs':V.s.at_ g2 cap2=s' at B4;have sm:X6 s' V.s:=by rw [<-hs'];exact ZaG _ _ _
 generalize List.replicate V.s.len 0=es0 at B4;have B5:=B4.app [_,_];clear B4;go_wp2_with fail
 go_loopw [28] (λ iv wr=>∃(k:Nat)(ms2:List MD),k<=Z.length/\iv=.int .i64 k/\(∀ g u,YX ms2 g u↔∃ j p,j<k/\Z[j]?=some p/\takeN s' p.size (plN p) g u) /\
   Bt W h [star [X9 s',ZV bb s' V.secs ms2 es0],Zd pb (X7 V txg root live (.slice sa l.length scap) (.slice ra V.ds.length rcap) (pV bk) (.pointer none) (.pointer ow)) 82,Zw 125 15 sa l.length scap (Ye l),Zw 92 2 ra V.ds.length rcap (YU V.ds.length),ZV bk sb V.secs ms1 es1,ZE V N1 F1,X9 sb,Zw 50 12 ad Z.length cap (Y8 Z)] wr)
  (λ iv _=>Z.length-(intOf iv).toNat)
 case atStart=>exact⟨0,XI V.s V.secs bs,Nat.zero_le _,rfl,λ g u=>⟨λ⟨m,hm,r,hr,_⟩=>(by rw [Zbx hm]at hr;cases hr),λ⟨j,_,hj,_⟩=>absurd hj (by omega)⟩,B5⟩
 case round =>
  clear B5;obtain⟨k,ms2,hk,rfl,hU,B⟩:=hrel;have HU:=Lib.hid hU;clear hU
  by_cases hlt:k<Z.length
  ·obtain⟨p,hp⟩:∃ p,Z[k]?=some p:=⟨_,List.getElem?_eq_getElem hlt⟩
   obtain⟨b,o,rfl,hb,hc⟩:=(Yo B (i:=7) rfl).1.cells k p.cs.toList (by simp [Y8,hp]);haveI:ZJ b (o+k*12) p.cs 12 wr:=⟨rfl,hb,λ j v e=>hc j v e⟩
   obtain⟨_,t,hpt⟩:=hZ p (List.mem_of_getElem? hp)
   have po:J9 s' V.secs p:=by
    have:=(Ok1.out.kept.held p t hpt).ok;exact this.same sm
   have MK:=Zim bb s' V.secs ms2 es0 p po;have Hp:=Lib.hid hp;clear hp hc hpt po;go_wp2_with(first|((with_reducible apply Za);(·exact rfl);(·exact ii))|((with_reducible apply Zb);(·exact rfl);(·exact rfl);(·exact ii)));refine(Bt.call MK).mono ?_;rintro e w5 ⟨v,q,rfl,hM,B1⟩;clear B MK;dsimp only;rcases hM with ⟨rfl,ms3,hM,rfl⟩|⟨_,⟨g,u,hu,hpu⟩,_⟩
   ·have HM:=Lib.hid hM;clear hM;go_wp2_with fail;refine⟨⟨k+1,ms3,hlt,by go_num,λ g u=>(HM.out g u).trans ?_,B1.drop⟩,by simp [intOf];omega⟩;rw [HU.out];constructor
    ·rintro(⟨j,p',hj,h⟩|h)
     ·exact⟨j,p',by omega,h⟩
     ·exact⟨k,p,by omega,Hp.out,h⟩
    ·rintro⟨j,p',hj,hp',h⟩;rcases Nat.lt_or_ge j k with h1|h1
     ·exact .inl ⟨j,p',h1,hp',h⟩
     ·obtain rfl:j=k:=by omega
      have e1:p'=p:=by have:=Hp.out;rw [this]at hp';exact(Option.some.inj hp').symm
      subst e1;exact .inr h
   ·exfalso
    obtain⟨j,p',hj,hp',h⟩:=(HU.out g u).1 hu;obtain⟨_,t1,k1⟩:=hZ p (List.mem_of_getElem? Hp.out);obtain⟨_,t2,k2⟩:=hZ p' (List.mem_of_getElem? hp');have tk:=Ok1.out.kept;rw [ZcG sm]at h hpu;rcases tk.apart p' p t2 t1 k2 k1 with e|e
    ·have hjk:j<Z.length:=by omega
     have n:=List.pairwise_iff_getElem.1 HZn.out j k (by rw [List.length_map];omega) (by rw [List.length_map];exact hlt) hj;rw [List.getElem_map,List.getElem_map,(List.getElem?_eq_some_iff.1 hp').2,(List.getElem?_eq_some_iff.1 Hp.out).2,e]at n;exact n rfl
    ·exact e g u ((VL (tk.held p' t2 k2).fit).2 h) ((VL (tk.held p t1 k1).fit).2 hpu)
  ·obtain rfl:Z.length=k:=by omega
   go_wp2_with fail;go_ret;refine XE (W:=W) (h:=h) (l:=[star [X9 s',ZV bb s' V.secs ms2 es0],Zd pb (X7 V txg root live (.slice sa l.length scap) (.slice ra V.ds.length rcap) (pV bb) (.pointer none) (.pointer ow)) 82,Zw 125 15 sa l.length scap (Ye l),Zw 92 2 ra V.ds.length rcap (YU V.ds.length),ZV bk sb V.secs ms1 es1,ZE V N1 F1,X9 sb,Zw 50 12 ad Z.length cap (Y8 Z)]) ii λ w9 B9=>?_
   have B10:=B9.flat;simp only [List.cons_append,List.nil_append]at B10;have B11:=Bt.oS (B10) [2,3,4,1,6,0,5,7,8];have ok1:=Ok1.out;refine⟨_,⟨Z,bb,s',N1,F1,ms2,es0,rfl,⟨⟨sm,⟨λ p t hp=>ok1.kept.held p t hp.1,λ p t hp g u hu=>?_,λ p q t t' hp hq=>ok1.kept.apart p q t t' hp.1 hq.1⟩,ok1.bd,ok1.ring,ok1.ro⟩,HR.out.1,HR.out.2,ok1.kept.held⟩,rfl⟩,(B11.app [_,_,_,_,_,_]).fin_at 0 rfl⟩;obtain⟨j,hj⟩:=List.mem_iff_getElem?.1 hp.2;have hjl:=(List.getElem?_eq_some_iff.1 hj).1;refine .inr ((HU.out g u).2 ⟨j,p,hjl,hj,?_⟩);have h1:=(VL (ok1.kept.held p t hp.1).fit).1 hu;rw [<-hs'];exact h1
end
theorem ZjC{s:ZO}{secs:Int}(h:ZT s secs){F:Nat->Nat->ByteArray}{p:Pt}{t:ByteArray}(hl:Held s secs F p t){d sl j:Nat}{t':ByteArray}(hs:sl+4<=16)(hj:j<=4):Held s secs (zE F d sl j t') p t:=by
 refine⟨hl.ok,hl.fit,hl.size,hl.sum,λ k c e hc he=>?_⟩;rw [<-hl.at_ k c e hc he];obtain⟨g',a',z',e1,e2,e3,h1,h2,h3⟩:=hl.ok.in_ h;rw [e1,e2,e3,Int.toNat_natCast,Int.toNat_natCast,Int.toNat_natCast]at hc;have q:=Xl h h1 h2 hc;unfold zE;rw [if_neg (by omega)]
theorem Qu.ub{V:VD}{sb:ZO}{K:KS}{C N N':Nat}{F:Nat->Nat->ByteArray}{ms:List MD}(ok:Qu V sb K C N F ms)(h:ZT V.s V.secs){C':Nat}(hc:C'<=C)(hb:N'+64*C'<=1000000000000){d sl j:Nat}{t':ByteArray}(hs:sl+4<=16)(hj:j<=4):Qu { V with rg:=zE V.rg d sl j t' } sb K C' N' (zE F d sl j t') ms :=
 ⟨ok.same,⟨λ p t hp=>ZjC h (ok.kept.held p t hp) hs hj,ok.kept.used,ok.kept.apart⟩,hb,λ e k hk=>by show zE F d sl j t' e k=zE V.rg d sl j t' e k;unfold zE;rw [ok.ring e k hk],λ e=>by have:=ok.ro e;omega⟩
abbrev VD.ub(V:VD)(txg:Nat)(n:Nd):VD:={ V with rg:=zE V.rg V.ds.length (txg%4*4) 0 (ubS V.s V.secs txg n) }
theorem ZE.gh(V:VD)(r:Nat->Nat->ByteArray)(b:Bool)(N:Nat)(F:Nat->Nat->ByteArray):ZE { V with rg:=r,ro:=b } N F=ZE V N F:=by
 funext h
 exact propext ⟨λ⟨a,b⟩=>⟨⟨a.g,a.n,a.le⟩,b⟩,λ⟨a,b⟩=>⟨⟨a.g,a.n,a.le⟩,b⟩⟩
theorem yI.gh(V:VD)(r:Nat->Nat->ByteArray)(b:Bool)(pb txg:Nat)(root live:Nd)(l:List Sn)(sa:Option Addr)(scap:Nat)(ra:Option Addr)(rcap:Nat)(ob owk ow:Option Addr)(bk:Nat)(sb:ZO)(N:Nat)(F:Nat->Nat->ByteArray)(ms:List MD)(es:List Nat) :
  yI { V with rg:=r,ro:=b } pb txg root live l sa scap ra rcap ob owk ow bk sb N F ms es=yI V pb txg root live l sa scap ra rcap ob owk ow bk sb N F ms es:=by
 unfold yI;rw [ZE.gh]
end Go.Proofs.YtlfjdjndhcmliaaGreatDoor
