/- WholeGeoms, part 29. -/
import Derived.Test.YtlfjdjndhcmliaaGreatDoorA20
import Derived.Shelf.SlSortCmp.WholeK
import Derived.Ground.SlsfProg
import Derived.Test.YtlfjdjndhcmliaaGreatDoorProg
import Derived.Test.YtlfjdjndhcmliaaGreatDoorA28
import Derived.Shelf.SlSortCmp.NoneTotal
import Derived.Test.YtlfjdjndhcmliaaGreatDoorA25
set_option maxRecDepth 100000
set_option maxHeartbeats 4000000
set_option linter.all false
namespace Go.Proofs.YtlfjdjndhcmliaaGreatDoor
open Go.RowKit Go.Sort
@[go_sem] def On1 (W w':World):Prop:=∃ p:Gr,w'=gr W ⟨W.drawn+p.d,p.os⟩
theorem On1.sort {W w':World} (h:On1 W w'):∃ q os,w'=grow (W.drewN q) os:=by
 obtain ⟨p,rfl⟩:=h
 exact ⟨p.d,p.os,rfl⟩
theorem On1.trans {a b c:World} (h:On1 a b) (k:On1 b c):On1 a c:=by
 obtain ⟨p,rfl⟩:=h
 obtain ⟨q,rfl⟩:=k
 refine ⟨⟨p.d+q.d,p.os++q.os⟩,?_⟩
 simp [gr,redrawn,grow,Nat.add_assoc]
theorem On1.alloc (W:World) (o:Obj):On1 W (W.alloc o):=⟨⟨0,#[o]⟩,by
 have e:W.alloc o=gr W ((⟨W.drawn,#[]⟩:Gr).push o):=by rw [<-gr_alloc];simp only [gr,grow_empty];rfl
 exact e⟩
theorem On1.drew (W:World):On1 W { W with drawn:=W.drawn+1 }:=⟨⟨1,#[]⟩,by simp only [gr,grow_empty];rfl⟩
def or3 (x y z:Int):Int:=if x=0 then (if y=0 then z else y) else x
theorem cmpor3_ex (b:Nat) (x y z:Int) (W:World) [k:CellsIn W b #[.int .i64 x,.int .i64 y,.int .i64 z]]:Calls Tryz.prog 225 #[.slice (some ⟨b,0,none⟩) 3 3] W λ e w'=>e=.returned (.int .i64 (or3 x y z))/\w'=W:=by
 generalize hr:or3 x y z=r
 have h1:=Lib.hid (show x=0->y=0->r=z from λ h h'=>by rw [<-hr,or3,if_pos h,if_pos h'])
 have h2:=Lib.hid (show x=0->y≠0->r=y from λ h h'=>by rw [<-hr,or3,if_pos h,if_neg h'])
 have h3:=Lib.hid (show x≠0->r=x from λ h=>by rw [<-hr,or3,if_neg h])
 clear hr
 go_enter Tryz.func225,Tryz.ntmps225
 go_wp2_with fail
 go_loopw [8] (λ i wr=>(i=.int .i64 0\/(i=.int .i64 1/\x=0)\/(i=.int .i64 2/\x=0/\y=0)\/(i=.int .i64 3/\x=0/\y=0/\z=0))/\wr=W)
  (λ i _=>3 - (intOf i).toNat)
 case atStart=>exact ⟨.inl rfl,rfl⟩
 case round =>
  obtain ⟨rfl | ⟨rfl,hx⟩ | ⟨rfl,hx,hy⟩ | ⟨rfl,hx,hy,hz⟩,rfl⟩:=hrel
  ·by_cases hx:x=0
   ·have e:(x != 0)=false:=by simp [hx]
    have Hx:=Lib.hid hx
    clear hx
    go_wp2_with fail
    exact ⟨⟨.inr (.inl ⟨rfl,Hx.out⟩),trivial⟩,by simp [intOf]⟩
   ·have e:(x != 0)=true:=by simp [hx]
    have e2:=h3.out hx
    subst e2
    clear hx h1 h2 h3
    go_wp2_with fail
    go_ret
    exact ⟨rfl,rfl⟩
  ·by_cases hy:y=0
   ·have e:(y != 0)=false:=by simp [hy]
    have Hx:=Lib.hid hx
    have Hy:=Lib.hid hy
    clear hx hy
    go_wp2_with fail
    exact ⟨⟨.inr (.inr (.inl ⟨rfl,Hx.out,Hy.out⟩)),trivial⟩,by simp [intOf]⟩
   ·have e:(y != 0)=true:=by simp [hy]
    have e2:=h2.out hx hy
    subst e2
    clear hx hy h1 h2 h3
    go_wp2_with fail
    go_ret
    exact ⟨rfl,rfl⟩
  ·have e2:=h1.out hx hy
   subst e2
   have Hx:=Lib.hid hx
   have Hy:=Lib.hid hy
   clear hx hy h1 h2 h3
   by_cases hz:r=0
   ·have e:(r != 0)=false:=by simp [hz]
    have Hz:=Lib.hid hz
    clear hz
    go_wp2_with fail
    exact ⟨⟨.inr (.inr (.inr ⟨rfl,Hx.out,Hy.out,Hz.out⟩)),trivial⟩,by simp [intOf]⟩
   ·have e:(r != 0)=true:=by simp [hz]
    clear hz
    go_wp2_with fail
    go_ret
    exact ⟨rfl,rfl⟩
  ·have e2:=h1.out hx hy
   subst e2
   clear h1 h2 h3
   subst hx hy hz
   go_wp2_with fail
   go_ret
   exact ⟨rfl,rfl⟩
def ltP (p q:Pt):Bool:=decide (or3 (Lib.compareInt p.birth q.birth) (Lib.compareInt p.ag q.ag) (Lib.compareInt p.aa q.aa) < 0)
theorem less_ex (p q:Pt) (W:World):Calls Tryz.prog 182 #[.agg p.cs,.agg q.cs] W λ e w'=>e=.returned (.bool (ltP p q))/\On1 W w':=by
 simp only [Pt.cs]
 have C1:=λ w=>Tryz.cmp_Compare_int p.birth q.birth w
 have C2:=λ w=>Tryz.cmp_Compare_int p.ag q.ag w
 have C3:=λ w=>Tryz.cmp_Compare_int p.aa q.aa w
 unfold ltP
 generalize Lib.compareInt p.birth q.birth=x at C1 ⊢
 generalize Lib.compareInt p.ag q.ag=y at C2 ⊢
 generalize Lib.compareInt p.aa q.aa=z at C3 ⊢
 go_enter Tryz.func182,Tryz.ntmps182
 go_wp2_with fail
 refine wp_region_class_tail (C:=On1 _) 19 (by kernel_rfl) (by kernel_rfl) (On1.drew _) ?_
 simp only [List.take_succ_cons,List.take_zero,List.drop_succ_cons,List.drop_zero]
 repeat (go_big_quiet_step (first | (go_at_call 226;with_reducible refine (C1 _).mono ?_;rintro e w' ⟨rfl,rfl⟩;exact ⟨rfl,_,rfl⟩) | (with_reducible refine (C2 _).mono ?_;rintro e w' ⟨rfl,rfl⟩;exact ⟨rfl,_,rfl⟩) | (with_reducible refine (C3 _).mono ?_;rintro e w' ⟨rfl,rfl⟩;exact ⟨rfl,_,rfl⟩)))
 refine wpQuiet_nil ?_
 rintro w1 hw1
 go_wp2_with fail
 have HO:∀ w:World,Calls Tryz.prog 225 #[.slice (some ⟨w.heap.size,0,none⟩) 3 3] (w.alloc (.cells #[.int .i64 x,.int .i64 y,.int .i64 z] 3)) λ e w'=>e=.returned (.int .i64 (or3 x y z))/\w'=w.alloc (.cells #[.int .i64 x,.int .i64 y,.int .i64 z] 3):=λ w=>by
  haveI:CellsIn (w.alloc (.cells #[.int .i64 x,.int .i64 y,.int .i64 z] 3)) w.heap.size #[.int .i64 x,.int .i64 y,.int .i64 z]:=⟨_,heap_alloc_new _ _⟩
  exact cmpor3_ex _ _ _ _ _
 refine (HO _).mono ?_
 rintro e w' ⟨rfl,rfl⟩
 have hw2:=((((On1.alloc W _).trans (On1.alloc _ _)).trans hw1)).trans (On1.alloc _ (.cells #[.int .i64 x,.int .i64 y,.int .i64 z] 3))
 clear hw1 C1 C2 C3 HO
 go_wp2_with fail
 go_ret
 exact ⟨rfl,hw2⟩
def cmpP (p q:Pt):Int:=if ltP p q then -1 else if ltP q p then 1 else 0
theorem once2_ex (p q:Pt) (W:World):Calls Tryz.prog 181 #[.agg p.cs,.agg q.cs] W λ e w'=>e=.returned (.int .i64 (cmpP p q))/\On1 W w':=by
 have L1:=λ w=>less_ex p q w
 have L2:=λ w=>less_ex q p w
 unfold cmpP
 simp only [Pt.cs] at L1 L2 ⊢
 generalize ltP p q=x at L1 ⊢
 generalize ltP q p=y at L2 ⊢
 cases x
 ·go_enter Tryz.func181,Tryz.ntmps181
  go_wp2_with fail
  refine (L1 _).mono ?_
  rintro e w1 ⟨rfl,h1⟩
  have h2:=((On1.alloc W _).trans (On1.alloc _ _)).trans h1
  obtain ⟨g1,rfl⟩:=h1
  dsimp only
  cases y
  ·go_wp2_with fail
   refine (L2 _).mono ?_
   rintro e w2 ⟨rfl,h3⟩
   have h4:=h2.trans h3
   clear h2 h3 L1 L2
   dsimp only
   go_wp2_with fail
   go_ret
   exact ⟨rfl,h4⟩
  ·go_wp2_with fail
   refine (L2 _).mono ?_
   rintro e w2 ⟨rfl,h3⟩
   have h4:=h2.trans h3
   clear h2 h3 L1 L2
   dsimp only
   go_wp2_with fail
   go_ret
   exact ⟨rfl,h4⟩
 ·go_enter Tryz.func181,Tryz.ntmps181
  go_wp2_with fail
  refine (L1 _).mono ?_
  rintro e w1 ⟨rfl,h1⟩
  have h2:=((On1.alloc W _).trans (On1.alloc _ _)).trans h1
  clear h1 L1 L2
  dsimp only
  go_wp2_with fail
  go_ret
  exact ⟨rfl,h2⟩
theorem ltP_iff (p q:Pt):ltP p q=true ↔ p.birth < q.birth\/(p.birth=q.birth/\(p.ag < q.ag\/(p.ag=q.ag/\p.aa < q.aa))):=by
 have h1:=ltOf_c p.birth q.birth
 have h2:=ltOf_c p.ag q.ag
 have h3:=ltOf_c p.aa q.aa
 have e1:=eq_c p.birth q.birth
 have e2:=eq_c p.ag q.ag
 unfold ltP or3
 simp only [decide_eq_true_eq]
 split <;> (try split) <;> omega
end Go.Proofs.YtlfjdjndhcmliaaGreatDoor
namespace Go.Proofs
open Go.Shelf
def Tryz.sortP_ren:Go.Shelf.Ren:=⟨λ | 6=>180 | 15=>224 | 14=>223 | 28=>252 | 29=>253 | 20=>244 | 21=>245 | 22=>246 | 23=>247 | 24=>248 | 25=>249 | 26=>250 | 27=>251 | 46=>264 | 47=>265 | 48=>266 | 49=>267 | 50=>268 | 57=>274 | n=>n,λ | 22=>149 | 24=>50 | 25=>278 | 3=>3 | 39=>293 | 0=>0 | 53=>338 | 55=>46 | 4=>4 | 46=>351 | 45=>350 | 50=>197 | 5=>5 | 9=>9 | 66=>363 | 70=>367 | 76=>379 | 77=>380 | n=>n,λ | n=>n⟩
theorem Tryz.sortP:Go.Proofs.SlLaysF0.n6 Tryz.prog Tryz.sortP_ren:={
 mixed:=by kernel_rfl
 f6:=⟨Tryz.f180.name,by decide,Tryz.func180.trans (congrArg some (by kernel_rfl))⟩
 f14:=⟨Tryz.f223.name,by decide,Tryz.func223.trans (congrArg some (by kernel_rfl))⟩
 f15:=Tryz.func224.trans (congrArg some (by kernel_rfl))
 f20:=⟨Tryz.f244.name,by decide,Tryz.func244.trans (congrArg some (by kernel_rfl))⟩
 f21:=⟨Tryz.f245.name,by decide,Tryz.func245.trans (congrArg some (by kernel_rfl))⟩
 f22:=⟨Tryz.f246.name,by decide,Tryz.func246.trans (congrArg some (by kernel_rfl))⟩
 f23:=⟨Tryz.f247.name,by decide,Tryz.func247.trans (congrArg some (by kernel_rfl))⟩
 f24:=⟨Tryz.f248.name,by decide,Tryz.func248.trans (congrArg some (by kernel_rfl))⟩
 f25:=⟨Tryz.f249.name,by decide,Tryz.func249.trans (congrArg some (by kernel_rfl))⟩
 f26:=⟨Tryz.f250.name,by decide,Tryz.func250.trans (congrArg some (by kernel_rfl))⟩
 f27:=⟨Tryz.f251.name,by decide,Tryz.func251.trans (congrArg some (by kernel_rfl))⟩
 f28:=Tryz.func252.trans (congrArg some (by kernel_rfl))
 f29:=Tryz.func253.trans (congrArg some (by kernel_rfl))
 f46:=⟨Tryz.f264.name,by decide,Tryz.func264.trans (congrArg some (by kernel_rfl))⟩
 f47:=Tryz.func265.trans (congrArg some (by kernel_rfl))
 f48:=Tryz.func266.trans (congrArg some (by kernel_rfl))
 f49:=⟨Tryz.f267.name,by decide,Tryz.func267.trans (congrArg some (by kernel_rfl))⟩
 f50:=⟨Tryz.f268.name,by decide,Tryz.func268.trans (congrArg some (by kernel_rfl))⟩
 f57:=⟨Tryz.f274.name,by decide,Tryz.func274.trans (congrArg some (by kernel_rfl))⟩
 t0:=Tryz.underlying0
 a0:=Tryz.isAgg0
 z0:=Tryz.sizeOf0
 v0:=Tryz.zeroValue0
 t3:=Tryz.underlying3
 a3:=Tryz.isAgg3
 z3:=Tryz.sizeOf3
 v3:=Tryz.zeroValue3
 t4:=Tryz.underlying4
 a4:=Tryz.isAgg4
 z4:=Tryz.sizeOf4
 v4:=Tryz.zeroValue4
 t5:=Tryz.underlying5
 a5:=Tryz.isAgg5
 z5:=Tryz.sizeOf5
 v5:=Tryz.zeroValue5
 t9:=Tryz.underlying9
 a9:=Tryz.isAgg9
 z9:=Tryz.sizeOf9
 v9:=Tryz.zeroValue9
 t22:=Tryz.underlying149
 a22:=Tryz.isAgg149
 z22:=Tryz.sizeOf149
 v22:=Tryz.zeroValue149
 t25:=Tryz.underlying278
 a25:=Tryz.isAgg278
 z25:=Tryz.sizeOf278
 v25:=Tryz.zeroValue278
 t39:=Tryz.underlying293
 a39:=Tryz.isAgg293
 z39:=Tryz.sizeOf293
 v39:=Tryz.zeroValue293
 t45:=Tryz.underlying350
 a45:=Tryz.isAgg350
 z45:=Tryz.sizeOf350
 v45:=Tryz.zeroValue350
 t46:=Tryz.underlying351
 a46:=Tryz.isAgg351
 z46:=Tryz.sizeOf351
 v46:=Tryz.zeroValue351
 t50:=Tryz.underlying197
 a50:=Tryz.isAgg197
 z50:=Tryz.sizeOf197
 v50:=Tryz.zeroValue197
 t53:=Tryz.underlying338
 a53:=Tryz.isAgg338
 z53:=Tryz.sizeOf338
 v53:=Tryz.zeroValue338
 t55:=Tryz.underlying46
 a55:=Tryz.isAgg46
 z55:=Tryz.sizeOf46
 v55:=Tryz.zeroValue46
 t66:=Tryz.underlying363
 a66:=Tryz.isAgg363
 z66:=Tryz.sizeOf363
 v66:=Tryz.zeroValue363
 t70:=Tryz.underlying367
 a70:=Tryz.isAgg367
 z70:=Tryz.sizeOf367
 v70:=Tryz.zeroValue367
 t76:=Tryz.underlying379
 a76:=Tryz.isAgg379
 z76:=Tryz.sizeOf379
 v76:=Tryz.zeroValue379
 t77:=Tryz.underlying380
 a77:=Tryz.isAgg380
 z77:=Tryz.sizeOf380
 v77:=Tryz.zeroValue380 }
end Go.Proofs
namespace Go.Proofs.YtlfjdjndhcmliaaGreatDoor
open Go.RowKit Go.Sort Go.Shelf Go.Proofs
theorem ltOf_p (p q:Pt):ltOf cmpP p q=ltP p q:=by
 unfold ltOf cmpP
 cases ltP p q <;> cases ltP q p <;> simp
theorem cmpP_swo:SWO (ltOf cmpP) where
 irrefl x:=by rw [ltOf_p,Bool.eq_false_iff];intro h;rw [ltP_iff] at h;omega
 trans x y z h1 h2:=by rw [ltOf_p,ltP_iff] at *;omega
 ntrans x y z h1 h2:=by rw [ltOf_p,Bool.eq_false_iff,ne_eq,ltP_iff] at *;omega
instance:Inhabited Pt:=⟨Pt.none⟩
def encP (p:Pt):List Value:=p.cs.toList
theorem flatK_ptC (X:List Pt):(flatK encP 12 X.toArray).toList=(ptC X).flatten:=by
 have hz:∀ y∈ptC X,y.length=12:=λ y hy=>by
  obtain ⟨p,_,rfl⟩:=List.mem_map.1 hy
  rfl
 have hl:=flat_len hz
 have hpl:(ptC X).length=X.length:=by simp [ptC]
 apply List.ext_getElem?
 intro t
 by_cases ht:t < X.length*12
 ·have h1:=get_flatK encP 12 X.toArray t (by simpa using ht)
  have hk:t / 12 < X.length:=by omega
  have e:=flat_at (ptC X) 12 (t / 12) (t % 12) X[t / 12].cs.toList hz (by simp [ptC,hk]) (by omega)
  rw [show t / 12*12+t % 12=t by omega] at e
  rw [e,Array.getElem?_toList,Array.getElem?_eq_getElem (by simpa using ht)]
  rw [getElem!_pos _ t (by simpa using ht)] at h1
  rw [h1]
  have h2:t % 12 < X[t / 12].cs.toList.length:=by have:X[t / 12].cs.toList.length=12:=rfl;omega
  rw [List.getElem?_eq_getElem h2]
  simp only [encP,List.getElem!_toArray]
  rw [getElem!_pos X (t / 12) hk,getElem!_pos X[t / 12].cs.toList (t % 12) h2]
 ·rw [List.getElem?_eq_none (by simp;omega),List.getElem?_eq_none (by rw [hl,hpl];omega)]
theorem cmp_lays (blk off size:Nat) (w:World):CmpLays Tryz.prog 181 #[] encP 12 cmpP blk off size w:=λ m os dk _ x y=>(once2_ex x y _).mono λ _ _ ⟨h1,h2⟩=>⟨h1,h2.sort⟩
theorem putCells_list (F cur:Array Value) (h:F.size<=cur.size):(putCells id 0 F cur).toList=F.toList++cur.toList.drop F.size:=by
 apply List.ext_getElem?
 intro k
 rw [List.getElem?_append,Array.getElem?_toList,List.getElem?_drop]
 unfold putCells
 rw [Array.getElem?_mapIdx]
 by_cases hk:k < F.size
 ·have hc:k < cur.size:=by omega
  simp [hk,hc]
 ·simp [hk,show F.size+(k - F.size)=k by omega]
theorem sort_tu (g cap c:Nat) (X:List Pt) (R:List (List Value)) (hX:X.length<=1000000000) :
  Tu 180 #[.slice (some ⟨g,0,none⟩) X.length c,.func (.func 181) #[] #[]] (RwP 50 12 g cap (ptC X++R)) λ v h =>
   v=.tuple #[]/\∃ X',X'.Perm X/\RwP 50 12 g cap (ptC X'++R) h:=by
 intro W h hw r
 obtain ⟨cur,b1,b2,b3,b4,b5⟩:=r
 have hg:=hw.get _ _ b1
 have hold:g < W.heap.size:=(Array.getElem?_eq_some_iff.1 hg).1
 have hpl:∀ Y:List Pt,(ptC Y).length=Y.length:=λ Y=>by simp [ptC]
 have hlen:X.length*12<=cur.size:=by
  rw [b2];rw [List.length_append,hpl] at b5;omega
 have hF:∀ Y:List Pt,(flatK encP 12 Y.toArray).size=Y.length*12:=λ Y=>by simp
 have hz:∀ Y:List Pt,∀ y∈ptC Y,y.length=12:=λ Y y hy=>by
  obtain ⟨p,_,rfl⟩:=List.mem_map.1 hy
  rfl
 have hfl:∀ Y:List Pt,(ptC Y).flatten.length=Y.length*12:=λ Y=>by rw [flat_len (hz Y),hpl]
 have hH:HoldsK encP 12 W g 0 X.toArray:=λ j hj=>by
  rw [hF] at hj
  have e:cur.toList[j]?=(ptC X).flatten[j]?:=by
   have h1:(cur.toList.take ((ptC X++R).length*12))[j]?=cur.toList[j]?:=by
    rw [List.getElem?_take,if_pos (by rw [List.length_append,hpl];omega)]
   rw [<-h1,b3,List.flatten_append,List.getElem?_append_left (by rw [hfl];omega)]
  rw [<-flatK_ptC,Array.getElem?_toList,Array.getElem?_toList,Array.getElem?_eq_getElem (show j < (flatK encP 12 X.toArray).size by rw [hF];exact hj)] at e
  refine ⟨?_,?_⟩
  ·have h2:=getElem!_pos (flatK encP 12 X.toArray) j (by rw [hF];exact hj)
   rw [Nat.zero_add,Has.cell b1,h2]
   first | exact e | (rw [Array.getElem?_toList];exact e)
  ·simp [World.frozen?,hg]
 have S:=AnyQ.slices_SortFunc Tryz.sortP 12 Tryz.isAgg50 Tryz.sizeOf50 encP (λ _=>rfl) (λ x v hv=>by simp [encP,Pt.cs] at hv;rcases hv with rfl | rfl | rfl | rfl | rfl | rfl | rfl | rfl | rfl | rfl | rfl | rfl <;> rfl) cmpP cmpP_swo 181 #[] g 0 c X.toArray W (λ args w=>enters_of Tryz.func181 (by kernel_rfl) rfl args w) (cmp_lays g 0 _ W) hH hold (by simp;omega)
 change Calls Tryz.prog 180 _ _ _ at S
 simp only [List.size_toArray] at S
 refine S.mono ?_
 rintro _ _ ⟨rfl,d',n,os,⟨hs,_,hp⟩,_,rfl⟩
 have hs':d'.toList.length=X.length:=by simpa using hs
 have hpm:d'.toList.Perm X:=by
  have h1:d'.extract 0 X.length=d':=by rw [Array.extract_eq_self_iff];simp at hs;omega
  have h2:X.toArray.extract 0 X.length=X.toArray:=by rw [Array.extract_eq_self_iff];simp
  rw [h1,h2] at hp
  exact hp
 have hFs:(flatK encP 12 d').size=X.length*12:=by rw [size_flatK];simp at hs;rw [hs]
 have hFl:(flatK encP 12 d').toList=(ptC d'.toList).flatten:=by rw [<-flatK_ptC]
 generalize hc':putCells id 0 (flatK encP 12 d') cur=cur'
 have hcl:cur'.toList=(ptC d'.toList).flatten++cur.toList.drop (X.length*12):=by rw [<-hc',putCells_list _ _ (by rw [hFs];exact hlen),hFl,hFs]
 have hcs:cur'.size=cur.size:=by rw [<-hc'];simp [putCells]
 generalize hw':sortWorldK encP 12 W g 0 n d' os=w'
 have hh:∀ k,k < W.heap.size->w'.heap[k]?=if k=g then some (.cells cur' 50) else W.heap[k]?:=λ k hk=>by
  rw [<-hw',sortWorldK,heap_grow_old _ _ (by simpa [putRowK,Sort.ahead] using hk),putRowK,putRow,mapBlock]
  simp only [Array.getElem?_modify,Sort.ahead]
  by_cases e:g=k
  ·subst e
   rw [if_pos rfl,if_pos rfl,hg]
   simp only [Option.map_some,onCells]
   rw [hc']
  ·rw [if_neg e,if_neg (Ne.symm e)]
 refine ⟨_,rfl,Turns.mk (h.put g (.cells cur' 50)) ⟨by rw [<-hw'];rfl,by rw [<-hw'];rfl,by rw [<-hw'];rfl,by rw [<-hw'];simp [sortWorldK,grow,putRowK,Sort.ahead],λ k hk e=>?_⟩ ⟨λ m o e=>?_⟩ (λ m hm e=>?_) ⟨rfl,d'.toList,hpm,cur',Hl.put_same ..,by rw [hcs,b2],?_,λ x hx=>?_,?_⟩⟩
 ·rw [hh k hk,if_neg (λ e2=>by rw [e2,b1] at e;cases e)]
 ·by_cases hm:m=g
  ·subst hm
   rw [Hl.put_same] at e
   cases e
   rw [hh m hold,if_pos rfl]
  ·rw [Hl.put_other _ _ hm] at e
   rw [hh m (hw.lt e),if_neg hm]
   exact hw.get m o e
 ·by_cases hm:m=g
  ·subst hm;rw [b1] at e;cases e
  ·rw [Hl.put_other _ _ hm];exact e
 ·rw [hcl,List.length_append,hpl,hs',List.flatten_append]
  have h1:(ptC d'.toList).flatten.length=X.length*12:=by rw [hfl,hs']
  rw [Nat.add_mul,<- h1,List.take_length_add_append,h1]
  congr 1
  rw [List.length_append,hpl,Nat.add_mul,List.flatten_append] at b3
  have h2:(ptC X).flatten=cur.toList.take (X.length*12):=by
   have:=congrArg (List.take (X.length*12)) b3
   rw [List.take_take,Nat.min_eq_left (by omega),<- hfl X,List.take_left' rfl] at this
   rw [<-hfl X];exact this.symm
  have h3:=congrArg (List.drop (X.length*12)) b3
  rw [List.drop_take,Nat.add_sub_cancel_left,<- hfl X,List.drop_left' rfl] at h3
  rw [<-hfl X];exact h3
 ·rcases List.mem_append.1 hx with h1 | h1
  ·exact hz _ x h1
  ·exact b4 x (by simp [h1])
 ·rw [List.length_append,hpl] at b5 ⊢
  rw [hs'];exact b5
theorem sort_none (p:Option Addr) (c:Nat) (fv:Value) (W:World):Calls Tryz.prog 180 #[.slice p 0 c,fv] W λ e w'=>e=.returned (.tuple #[])/\w'=W:=by
 have S:=AnyF.slices_SortFunc_none Tryz.sortP p c fv W
 exact S
end Go.Proofs.YtlfjdjndhcmliaaGreatDoor
namespace Go.Proofs.YtlfjdjndhcmliaaGreatDoor
open Go.RowKit Go.Sort
def plOf (p:Pt):Int × Int:=(p.ag,p.aa)
def seenP (X:List Pt) (k:Nat) (x:Int × Int):Bool:=(X.take k).any λ q=>decide (x=plOf q)
theorem seenP_succ {X:List Pt} {k:Nat} {p:Pt} (hk:X[k]?=some p):seenP X (k+1)=addB (seenP X k) (plOf p):=by
 funext y
 unfold seenP addB
 rw [List.take_add_one,hk,List.any_append]
 by_cases h:y=plOf p <;> simp [h]
theorem MapB.new {n:Nat} {h:Hl} (hn:h n=some (.map #[] 0)):MapB n 0 (λ _=>false) h :=
 ⟨#[],0,hn,⟨by simp,MapKept.stamped_empty 0,by simp⟩,by simp,⟨λ x l _ e=>(by cases e),λ x l _ _=>rfl⟩⟩
section
variable {W w:World} {h:Hl} {l:List SP}
instance btAllocM (n:Nat) [B:Bt W h l w] [z:Szw w n]:Bt W h (MapB n 0 (λ _=>false)::l) (w.alloc (.map #[] 0)):=⟨by have e:=z.h;subst e;exact B.t.push _ (MapB.new (one_same _ _))⟩
theorem Bt.mapPut {C N:Nat} {g:Int × Int->Bool} {k:SP->List SP} {x:Int × Int} (hN:N<=1000000) (hx:wf2 x) (B:Bt W h l w) [m:Foc l (MapB C N g) k]:∃ w',(Instr.mapUpdate 274 (.map (some C)) (pl2V x) (.bool true)).run Tryz.prog w=.ok () w'/\Bt W h (k (MapB C (N+1) (addB g x))) w':=by
 obtain ⟨m',h1,j,e0,s⟩:=B.t
 obtain ⟨i,e,hk⟩:=m.e
 obtain ⟨h0,a,b,c⟩:=s.focus e
 haveI:=j.sub b
 obtain ⟨w',hr,T⟩:=put_mapB a hN w hx
 refine ⟨w',hr,?_⟩
 rw [hk]
 exact ⟨Turns.after m' e0 (((T.mono λ _ s=>s.1).frame j b).mono λ h' ⟨h1,q1,q2,q3⟩=>c _ h1 h' q1 q2 q3)⟩
end
theorem once1_tq (p:Pt) (m C N:Nat) (g:Int × Int->Bool) (hN:N<=1000000) (hx:wf2 (plOf p)):Tq 179 #[.agg p.cs,.pointer (some ⟨m,0,none⟩)] (star [BlkP m #[.map (some C)] 274,MapB C N g]) λ v q =>
  v=.bool (g (plOf p))/\q=star [BlkP m #[.map (some C)] 274,MapB C (N+1) (addB g (plOf p))]:=by
 refine Tq.of λ W h B=>?_
 replace B:=B.flat
 simp only [List.cons_append,List.nil_append] at B
 simp only [Pt.cs]
 have B1:Bt W h [BlkP W.heap.size _ _,BlkP m #[.map (some C)] 274,MapB C N g] (W.alloc (.cells p.cs 50)):=ii
 have LK:(Instr.lookup 274 (.map (some C)) (pl2V (plOf p)) false).run Tryz.prog (W.alloc (.cells p.cs 50))=.ok (.bool (g (plOf p))) (W.alloc (.cells p.cs 50)):=by
  obtain ⟨h0,q,j⟩:=B1.mem (i:=2) rfl
  exact look_mapB q _ hx
 obtain ⟨W2,PU,B2⟩:=Bt.mapPut (C:=C) (g:=g) hN hx B1
 generalize g (plOf p)=b at LK ⊢
 simp only [pl2V,plOf,Pt.cs] at LK PU
 go_enter Tryz.func179,Tryz.ntmps179
 go_wp2_with ((with_reducible apply wpList_load);(·exact rfl);(·exact ii))
 go_ret
 exact ⟨_,_,rfl,⟨rfl,rfl⟩,((B2.ord [1,2,0] (by kernel_rfl)).app [_,_]).fin_at 0 rfl⟩
def onceL (X:List Pt):List Pt:=((List.range X.length).filter λ k=>!seenP X k (plOf X[k]!)).map λ k=>X[k]!
theorem onceL_sub {X:List Pt} {p:Pt} (h:p∈onceL X):p∈X:=by
 obtain ⟨k,hk,rfl⟩:=List.mem_map.1 h
 have hk:=List.mem_range.1 (List.mem_filter.1 hk).1
 rw [getElem!_pos X k hk]
 exact List.getElem_mem hk
theorem onceL_cov {X:List Pt}:∀ (n k:Nat),k<=n->∀ hk:k < X.length,∃ q∈onceL X,plOf q=plOf X[k]
 | n,k,hn,hk=>by
  cases hs:seenP X k (plOf X[k]!) with
  | false =>
   refine ⟨X[k]!,List.mem_map.2 ⟨k,List.mem_filter.2 ⟨List.mem_range.2 hk,by rw [hs];rfl⟩,rfl⟩,by rw [getElem!_pos X k hk]⟩
  | true =>
   obtain ⟨q,h1,h2⟩:=List.any_eq_true.1 hs
   obtain ⟨j,hj,rfl⟩:=List.mem_take_iff_getElem.1 h1
   have h2:=of_decide_eq_true h2
   rw [getElem!_pos X k hk] at h2
   cases n with
   | zero=>omega
   | succ n =>
    obtain ⟨q,h3,h4⟩:=onceL_cov (X:=X) n j (by omega) (by omega)
    exact ⟨q,h3,by rw [h4,h2]⟩
theorem onceL_mem {X:List Pt} {p:Pt} (h:p∈X):∃ q∈onceL X,plOf q=plOf p:=by
 obtain ⟨k,hk,rfl⟩:=List.mem_iff_getElem.1 h
 exact onceL_cov k k (Nat.le_refl _) hk
theorem onceL_len (X:List Pt):(onceL X).length<=X.length:=by
 unfold onceL
 rw [List.length_map]
 exact Nat.le_trans (List.length_filter_le ..) (by simp)
theorem stay_pt (X:List Pt):stay (λ k=>seenP X k (plOf X[k]!)) (ptC X)=ptC (onceL X):=by
 unfold stay onceL ptC
 rw [List.length_map,List.map_map]
 refine List.map_congr_left λ k hk=>?_
 have hk:=List.mem_range.1 (List.mem_filter.1 hk).1
 simp [getElem!_pos,hk]
set_option maxRecDepth 512 in
theorem del_nil (f:FuncId) (q:goFn Tryz.prog f=true) (cp:Array Value) (W:World) :
  Calls Tryz.prog 178 #[.slice none 0 0,.func (.func f) #[] cp] W λ e w'=>e=.returned (.slice none 0 0)/\∃ g,w'=gr W g:=by
 have IX:=ixfP none 0 0 [] W (by omega) f q cp (λ _=>false) (λ _ w=>∃ g,w=gr W g) ⟨⟨W.drawn,#[]⟩,(gr_id W).symm⟩ (λ k w _=>⟨rfl,λ k x e=>by simp at e⟩) (λ k x w e=>by simp at e) (by simp)
 have hrun:=λ args w=>run_callGo (P:=Tryz.prog) q args w
 go_enter Tryz.func178,Tryz.ntmps178
 go_wp2_with fail
 refine IX.mono ?_
 rintro _ w1 ⟨k,rfl,hk,ha,hb,g1,rfl⟩
 obtain rfl:k=0:=by omega
 simp only [ixV,Nat.lt_irrefl,if_false]
 go_wp2_with fail
 go_ret
 exact ⟨rfl,g1,rfl⟩
theorem delf_tq (X:List Pt) (hX:X.length<=100000) (hwf:∀ p∈X,wf2 (plOf p)) (ad:Option Addr) (cap m C:Nat) :
  Tq 178 #[.slice ad X.length cap,.func (.func 179) #[] #[.pointer (some ⟨m,0,none⟩)]] (star [SlP 50 12 ad X.length cap (ptC X),BlkP m #[.map (some C)] 274,MapB C 0 λ _=>false]) λ v q =>
   v=.slice ad (onceL X).length cap/\q=SlP 50 12 ad (onceL X).length cap (ptC (onceL X)):=by
 refine Tq.of λ W h B=>?_
 replace B:=B.flat
 simp only [List.cons_append,List.nil_append] at B
 obtain ⟨h0,⟨q1,q2,q3⟩,j0⟩:=B.mem (i:=0) rfl
 rcases q3 with ⟨rfl,e2,rfl⟩ | ⟨g,rfl,hcap,hr⟩
 ·have e3:X=[]:=List.eq_nil_of_length_eq_zero e2
  subst e3
  refine (del_nil 179 (by kernel_rfl) _ W).mono ?_
  rintro _ _ ⟨rfl,g1,rfl⟩
  have B1:Bt W h _ (gr W g1):=ii
  exact ⟨_,_,rfl,⟨rfl,rfl⟩,B1.fin_at 0 rfl⟩
 ·have hxl:(ptC X).length=X.length:=by simp [ptC]
  have B1:=B.head (q:=RwP 50 12 g cap (ptC X)) λ h' ⟨a,b,c⟩=>by
   rcases c with ⟨c1,_⟩ | ⟨g',c1,_,c3⟩
   ·cases c1
   ·cases c1;exact c3
  have B2:=(B1.ord [1,2,0] (by kernel_rfl)).app [_,_]
  have B3:Bt W h [star [RwP 50 12 g cap (ptC X),star [BlkP m #[.map (some C)] 274,MapB C 0 (seenP X 0)]]] W:=(B2.ord [1,0] (by kernel_rfl)).app [_,_]
  have D:=delP g cap (ptC X) (by omega) (by simp [ptC,Pt.cs]) (λ x hx v hv=>by
   obtain ⟨p,_,rfl⟩:=List.mem_map.1 hx
   simp [Pt.cs] at hv
   rcases hv with rfl | rfl | rfl | rfl | rfl | rfl | rfl | rfl | rfl | rfl | rfl | rfl <;> rfl) 179 (by kernel_rfl) #[.pointer (some ⟨m,0,none⟩)] (λ k=>seenP X k (plOf X[k]!))
   (λ k=>star [BlkP m #[.map (some C)] 274,MapB C k (seenP X k)]) (λ k x hx=>by
    have hk:k < X.length:=by have:=(List.getElem?_eq_some_iff.1 hx).1;omega
    have ex:x=X[k].cs.toList:=by simpa [ptC,hk] using hx.symm
    subst ex
    have hp:=hwf X[k] (List.getElem_mem hk)
    have T:=(once1_tq X[k] m C k (seenP X k) (by omega) hp).u
    rw [getElem!_pos X k hk,seenP_succ (List.getElem?_eq_getElem hk)]
    exact T)
  rw [hxl,stay_pt] at D
  have el:(ptC (onceL X)).length=(onceL X).length:=by simp [ptC]
  rw [el] at D
  refine (Bt.call D.q (B:=B3)).mono ?_
  rintro _ w1 ⟨v,q,rfl,rfl,B4⟩
  obtain ⟨rfl,B5⟩:=B4.pure
  obtain ⟨L,B6⟩:=B5.ex
  obtain ⟨e1,B7⟩:=B6.pure
  obtain ⟨e2,B8⟩:=B7.pure
  have B9:=B8.flat
  have B10:=B9.head (q:=SlP 50 12 (some ⟨g,0,none⟩) (onceL X).length cap (ptC (onceL X))) λ h' r=>⟨el,by simp [ptC,Pt.cs],.inr ⟨g,rfl,hcap,r.cut (onceL X).length (by have:=onceL_len X;omega) e1⟩⟩
  exact ⟨_,_,rfl,⟨rfl,rfl⟩,B10.fin_at 0 rfl⟩
theorem sort_tq (Y:List Pt) (hY:Y.length<=100000) (ad:Option Addr) (cap:Nat) :
  Tq 180 #[.slice ad Y.length cap,.func (.func 181) #[] #[]] (SlP 50 12 ad Y.length cap (ptC Y)) λ v q =>
   v=.tuple #[]/\∃ Z,Z.Perm Y/\q=SlP 50 12 ad Y.length cap (ptC Z):=by
 refine Tq.of λ W h B=>?_
 obtain ⟨h0,⟨q1,q2,q3⟩,j0⟩:=B.mem (i:=0) rfl
 rcases q3 with ⟨rfl,e2,rfl⟩ | ⟨g,rfl,hcap,hr⟩
 ·have e3:Y=[]:=List.eq_nil_of_length_eq_zero e2
  subst e3
  refine (sort_none none 0 _ W).mono ?_
  rintro _ _ ⟨rfl,rfl⟩
  exact ⟨_,_,rfl,⟨rfl,_,List.Perm.refl _,rfl⟩,B.fin_at 0 rfl⟩
 ·have B1:=B.head (q:=RwP 50 12 g cap (ptC Y++[])) λ h' ⟨a,b,c⟩=>by
   rcases c with ⟨c1,_⟩ | ⟨g',c1,_,c3⟩
   ·cases c1
   ·cases c1;rw [List.append_nil];exact c3
  refine (Bt.call (sort_tu g cap cap Y [] (by omega)).q (B:=B1)).mono ?_
  rintro _ w1 ⟨v,q,rfl,rfl,B4⟩
  obtain ⟨rfl,B5⟩:=B4.pure
  obtain ⟨Z,B6⟩:=B5.ex
  obtain ⟨hp,B7⟩:=B6.pure
  refine ⟨_,_,rfl,⟨rfl,Z,hp,rfl⟩,(B7.head λ h' r=>⟨by simp [ptC,hp.length_eq],by simp [ptC,Pt.cs],.inr ⟨g,rfl,hcap,by rw [List.append_nil] at r;exact r⟩⟩).fin_at 0 rfl⟩
theorem once_tq (X:List Pt) (hX:X.length<=100000) (hwf:∀ p∈X,wf2 (plOf p)) (ad:Option Addr) (cap:Nat) :
  Tq 130 #[.slice ad X.length cap] (SlP 50 12 ad X.length cap (ptC X)) λ v q=>∃ Z,v=.slice ad Z.length cap/\Z.Perm (onceL X)/\q=SlP 50 12 ad Z.length cap (ptC Z):=by
 refine Tq.of λ W h B=>?_
 have DT:=λ m C=>delf_tq X hX hwf ad cap m C
 have ST:=sort_tq (onceL X) (by have:=onceL_len X;omega) ad cap
 have hmm:∀ W:World,(Instr.makeMap 274 none).run Tryz.prog W=.ok (.map (some W.heap.size)) (W.alloc (.map #[] 0)):=λ W=>by kernel_rfl
 go_enter Tryz.func130,Tryz.ntmps130
 go_wp2_with fail
 have B1:Bt W h [BlkP (W.heap.size+1) #[.map (some W.heap.size)] 274,MapB W.heap.size 0 (λ _=>false),SlP 50 12 ad X.length cap (ptC X)] ((W.alloc (.map #[] 0)).alloc (.cells #[.map (some W.heap.size)] 274)):=ii
 refine (Bt.call (DT (W.heap.size+1) W.heap.size) (B:=(B1.ord [2,0,1] (by kernel_rfl)).app [_,_,_])).mono ?_
 rintro _ w1 ⟨v,q,rfl,⟨rfl,rfl⟩,B2⟩
 clear B1 B DT
 dsimp only at B2 ⊢
 go_wp2_with fail
 refine (Bt.call ST (B:=B2)).mono ?_
 rintro _ w2 ⟨v,q,rfl,⟨rfl,Z,hp,rfl⟩,B3⟩
 clear B2 ST
 dsimp only at B3 ⊢
 go_wp2_with fail
 go_ret
 refine ⟨_,_,rfl,⟨Z,by rw [hp.length_eq];rfl,hp,rfl⟩,?_⟩
 rw [hp.length_eq]
 exact B3.fin_at 0 rfl
instance elTNd:ElT 223 52 13 104:=elT_of Tryz.underlying223 (by kernel_rfl) (by omega)
theorem blk_sl {n z:Nat} {cs:Array Value} {t:TypeId} {h:Hl} (hz:cs.size=z) (e:BlkP n cs t h):SlP t z (some ⟨n,0,none⟩) 1 1 [cs.toList] h :=
 ⟨rfl,by simp [hz],.inr ⟨n,rfl,by unfold maxLen;omega,cs,e,by omega,by rw [List.length_singleton,Nat.one_mul,List.take_of_length_le (by simp [hz])];simp,by simp [hz],Nat.le_refl _⟩⟩
theorem lit_wfI {x:Int} (h0:0<=x) (h1:x<=4294967296):(Lit.int .i64 x).wf=true:=by
 have e1:IntKind.i64.min=-9223372036854775808:=by decide
 have e2:IntKind.i64.max=9223372036854775807:=by decide
 simp [Lit.wf,e1,e2];omega
def ndC (Y:List Nd):List (List Value):=Y.map λ n=>n.cs.toList
section
variable {V:VD} {pb txg:Nat} {root live:Nd} {l:List Sn} {K:KS} {C:Nat}
theorem reach_tq (ht:txg+1<=4294967295) (hl:l.length<=4) (hC9:C<=1000000000) {g0:Nat->UInt8} (o0:Ob K root g0) (ds:List Nd) (hds:live::l.map Sn.dir=ds) (Ts:Nat->Objs) (hTs:∀ j n,ds[j]?=some n->DrT K n (Ts j))
  (sa:Option Addr) (scap:Nat) (ra:Option Addr) (rcap:Nat) (ow:Option Addr) (bk:Nat) (sb:Slc) (N:Nat) (F:Nat->Nat->ByteArray) (ms:List MD) (es:List Nat) (ok:StOk V sb K C N F ms) :
  Tq 72 #[pV pb] (star (PoL V pb txg root live l sa scap ra rcap (some ⟨bk,0,none⟩) none ow bk sb N F ms es)) λ v q=>∃ (Z:List Pt) (ad:Option Addr) (cap:Nat) (N':Nat) (F':Nat->Nat->ByteArray) (ms':List MD) (es':List Nat),
   v=.tuple #[.slice ad Z.length cap,.int .i64 0]/\(StOk V sb K C N' F' ms'/\Z.length<=20000/\HeldL K Z/\Ob (K.on Z) root g0/\∀ j n,ds[j]?=some n->DrT (K.on Z) n (Ts j))/\q=star [star (PoL V pb txg root live l sa scap ra rcap (some ⟨bk,0,none⟩) none ow bk sb N' F' ms' es'),SlP 50 12 ad Z.length cap (ptC Z)]:=by
 refine Tq.of λ W h B0=>?_
 have B:=B0.flat
 simp only [PoL,List.cons_append,List.nil_append] at B
 clear B0
 have PS:=λ (w:World) (_:CellsIn w pb (poC V txg root live (.slice sa l.length scap) (.slice ra V.ds.length rcap) (pV bk) (.pointer none) (.pointer ow)))=>pstore_at V pb bk txg (txg+1) 0 rfl (by omega) root live _ _ _ _ w
 go_enter Tryz.func72,Tryz.ntmps72
 go_wp2_with fail
 refine (PS _ ii).mono ?_
 rintro e w2 ⟨st,rfl,hg,hn⟩
 have B1:=Bt.join (W:=W) (h:=h) (l:=[BlkP pb (poC V txg root live (.slice sa l.length scap) (.slice ra V.ds.length rcap) (pV bk) (.pointer none) (.pointer ow)) 82,SlP 125 15 sa l.length scap (snC l),SlP 92 2 ra V.ds.length rcap (zrC V.ds.length),BookC bk sb V.secs ms es,DevsP V N F,GMP sb]) ii hg hn
 clear hg hn B PS
 dsimp only
 have B2:=B1.more (p:=DnP (.pointer none) C) (.inl ⟨rfl,hC9⟩)
 have B3:=Bt.oS (B2) [0,7,5,6,4,1,2,3]
 have B4:Bt W h (StP V st bk sb (txg+1) 0 false K C::_) w2:=(B3.app [_,_,_,_,_]).head λ h s=>⟨_,N,F,ms,es,ok,s⟩
 clear B1 B2 B3
 have T2:=sto_st (V:=V) (st:=st) (bb:=bk) (sb:=sb) (txg:=txg+1) (keep:=0) (meta_:=false) (by omega) (by omega)
 have A0:=All_tq T2 K C o0
 go_wp2_with ((with_reducible apply wpList_load);(·exact rfl);(·exact ii))
 refine (Bt.call A0).mono ?_
 rintro e w3 ⟨v,q,rfl,⟨X0,ad0,cap0,⟨rfl,rfl⟩,hX0⟩,B5⟩
 clear B4 A0
 dsimp only
 have HX0:=Lib.hid hX0
 clear hX0
 have B6:=B5.flat
 clear B5
 simp only [List.cons_append,List.nil_append] at B6
 go_wp2_with ((with_reducible apply wpList_load);(·exact rfl);(·exact ii))
 refine wp_world (W:=W) (h:=h) (l:=[BlkP w3.heap.size live.cs 52,StP V st bk sb (txg+1) 0 false K C,SlP 50 12 ad0 X0.length cap0 (ptC X0),BlkP pb (poC V txg root live (.slice sa l.length scap) (.slice ra V.ds.length rcap) (pV bk) (.pointer none) (.pointer ow)) 82,SlP 125 15 sa l.length scap (snC l),SlP 92 2 ra V.ds.length rcap (zrC V.ds.length)]) ii ?_
 clear B6
 intro w4 B6
 have B7:Bt W h (SlP 52 13 (some ⟨w3.heap.size,0,none⟩) 1 1 (ndC [live])::_) w4:=B6.head λ h' e=>blk_sl rfl e
 clear B6
 go_loopw [7,44] (λ ov iv wr=>∃ (k:Nat) (ad:Option Addr) (cap:Nat),k<=l.length/\iv=.int .i64 k/\ov=.slice ad (k+1:Nat) cap/\Bt W h [SlP 52 13 ad (k+1) cap (ndC (live::(l.take k).map Sn.dir)),StP V st bk sb (txg+1) 0 false K C,SlP 50 12 ad0 X0.length cap0 (ptC X0),BlkP pb (poC V txg root live (.slice sa l.length scap) (.slice ra V.ds.length rcap) (pV bk) (.pointer none) (.pointer ow)) 82,SlP 125 15 sa l.length scap (snC l),SlP 92 2 ra V.ds.length rcap (zrC V.ds.length)] wr)
  (λ _ iv _=>l.length - (intOf iv).toNat)
 case atStart=>exact ⟨0,_,_,Nat.zero_le _,rfl,rfl,B7⟩
 case round =>
  clear B7
  obtain ⟨k,ad,cap,hk,rfl,rfl,B⟩:=hrel
  by_cases hlt:k < l.length
  ·obtain ⟨x,hx⟩:∃ x,l[k]?=some x:=⟨_,List.getElem?_eq_getElem hlt⟩
   obtain ⟨b,o,rfl,hb,hc⟩:=(rd_sl B (i:=4) rfl).1.cells k x.cs (by simp [snC,hx])
   haveI:SubAt b (o+k*15) (#[.int .i64 x.id,.int .i64 x.txg,.int .i64 x.dir.size,.int .i64 x.dir.root.ag,.int .i64 x.dir.root.aa,.int .i64 x.dir.root.bg,.int .i64 x.dir.root.ba,.bool x.dir.root.two,.int .i64 x.dir.root.size,.int .i64 x.dir.root.level,.int .i64 x.dir.root.birth,.int .u64 x.dir.root.sum.a,.int .u64 x.dir.root.sum.b,.int .u64 x.dir.root.sum.c,.int .u64 x.dir.root.sum.d]) 15 wr:=⟨rfl,hb,λ j v e=>hc j v e⟩
   have e3:ndC (live::(l.take (k+1)).map Sn.dir)=ndC (live::(l.take k).map Sn.dir)++[x.dir.cs.toList]:=by rw [List.take_add_one,hx];simp [ndC]
   have E3:=Lib.hid e3
   clear hc hx e3
   go_wp2_with (first | (at_builtin;(with_reducible apply wpList_appT);(·exact rfl);(·exact rfl);(·exact ii);(·exact ii);(·exact ii);(·exact rfl);(·decide);(·omega);intro gA capA wA bA;(try dsimp only at bA)) | ((with_reducible apply wpList_load);(·exact rfl);(·exact ii)) | ((with_reducible apply wpList_store);(·exact rfl);(·exact rfl);(·exact ii)))
   refine ⟨⟨k+1,some ⟨gA,0,none⟩,capA,hlt,by go_num,rfl,?_⟩,by simp [intOf];omega⟩
   rw [E3.out]
   exact bA.drop.drop
  ·obtain rfl:l.length=k:=by omega
   rw [List.take_length,hds] at B
   have hdl:ds.length=l.length+1:=by rw [<-hds];simp
   have hTl:l.length+1<=5:=by omega
   have Hds:=Lib.hid hds
   have Hdl:=Lib.hid hdl
   clear hds hdl
   go_wp2_with fail
   go_loopw [5,56] (λ ov iv wr=>∃ (k:Nat) (X:List Pt) (ad1:Option Addr) (cap1:Nat),k<=l.length+1/\iv=.int .i64 k/\ov=.slice ad1 X.length cap1/\(X.length<=3000*(k+1)/\HeldL K X/\(K.on X0).le (K.on X)/\∀ j n,j < k->ds[j]?=some n->DrT (K.on X) n (Ts j)) /\
     Bt W h [SlP 52 13 ad (l.length+1) cap (ndC ds),StP V st bk sb (txg+1) 0 false K C,SlP 50 12 ad1 X.length cap1 (ptC X),BlkP pb (poC V txg root live (.slice sa l.length scap) (.slice ra V.ds.length rcap) (pV bk) (.pointer none) (.pointer ow)) 82,SlP 125 15 sa l.length scap (snC l),SlP 92 2 ra V.ds.length rcap (zrC V.ds.length)] wr)
    (λ _ iv _=>l.length+1 - (intOf iv).toNat)
   case atStart =>
    refine ⟨0,X0,ad0,cap0,Nat.zero_le _,rfl,rfl,⟨?_,HX0.out.2.1,KS.le.refl _,λ j n h=>absurd h (by omega)⟩,B⟩
    have h1:=HX0.out.1
    have hlv:=lvl_bd root.size
    have h2:=cA_le (n:=(lvl root.size).toNat) (by omega)
    omega
   case round =>
    clear B
    obtain ⟨k,X,ad1,cap1,hk,rfl,rfl,⟨hX1,hX2,hX3,hX4⟩,B⟩:=hrel
    by_cases hlt:k < l.length+1
    ·obtain ⟨n,hn⟩:∃ n,ds[k]?=some n:=⟨_,List.getElem?_eq_getElem (by rw [Hdl.out];exact hlt)⟩
     obtain ⟨b,o,rfl,hb,hc⟩:=(rd_sl B (i:=0) rfl).1.cells k n.cs.toList (by simp [ndC,hn])
     haveI:SubAt b (o+k*13) n.cs 13 wr:=⟨rfl,hb,λ j v e=>hc j v e⟩
     have DA:=dall_tq T2 K C (hTs k n hn)
     have Hn:=Lib.hid hn
     have H2:=Lib.hid hX2
     have H3:=Lib.hid hX3
     have H4:=Lib.hid hX4
     clear hc hn hX2 hX3 hX4
     go_wp2_with (first | ((with_reducible apply wpList_load);(·exact rfl);(·exact ii)) | ((with_reducible apply wpList_store);(·exact rfl);(·exact rfl);(·exact ii)))
     refine (Bt.call DA).mono ?_
     rintro e w5 ⟨v,q,rfl,⟨Y,ad2,cap2,rfl,hY,rfl⟩,B1⟩
     clear B DA
     dsimp only
     have HY:=Lib.hid hY
     have hYl:=hY.1
     clear hY
     have B2:=Bt.oS (B1) [2,0,1,3,4,5,6]
     have B4:=B2.flat
     clear B1 B2
     simp only [List.cons_append,List.nil_append] at B4
     have rY:=rd_sl B4 (i:=1) rfl
     have hXY:X.length+Y.length<=1000000000:=by omega
     go_wp2_with (at_builtin;(refine wpList_appM (ts:=149) B4 rfl rfl ii rY.1 rY.2.2 (ptC_z Y) (ptC_one Y) hXY (by decide) ?_);intro adA capA wA bA)
     rw [ptC_app,<- List.length_append] at bA
     refine ⟨⟨k+1,X++Y,adA,capA,hlt,by go_num,by rw [List.length_append],⟨by rw [List.length_append];omega,H2.out.app HY.out.2.1,H3.out.trans on_l,λ j n' hj hn'=>?_⟩,?_⟩,by simp [intOf];omega⟩
     ·rcases Nat.lt_or_ge j k with h | h
      ·exact (H4.out j n' h hn').mono on_l
      ·obtain rfl:j=k:=by omega
       have e1:n'=n:=by have:=Hn.out;rw [this] at hn';exact (Option.some.inj hn').symm
       subst e1
       exact HY.out.2.2.mono on_r
     ·have B5:=Bt.oS (bA) [1,2,3,0,4,5,6,7]
      exact B5.drop.drop
    ·obtain rfl:l.length+1=k:=by omega
     have hXl:X.length<=20000:=by omega
     have hwf:∀ p∈X,wf2 (plOf p):=λ p hp=>by
      obtain ⟨_,t,hk⟩:=hX2 p hp
      have f:=Pt.fit_in (ok.kept.held p t hk).fit
      exact ⟨lit_wfI (x:=p.ag) f.1.1 (by have:=f.1.2;omega),lit_wfI (x:=p.aa) f.2.1.1 (by have:=f.2.1.2;omega)⟩
     have OT:=once_tq X (by omega) hwf ad1 cap1
     have hcov:∀ Z:List Pt,Z.Perm (onceL X)->(K.on X).le (K.on Z):=λ Z hZ q t ⟨h1,h2⟩=>by
      refine ⟨h1,hZ.mem_iff.2 ?_⟩
      obtain ⟨q',h3,h4⟩:=onceL_mem h2
      obtain ⟨_,t',h5⟩:=hX2 q' (onceL_sub h3)
      have h6:=ok.kept.uni q' q t' t h5 h1 (congrArg Prod.fst h4) (congrArg Prod.snd h4)
      rw [<-h6];exact h3
     have Hc:=Lib.hid hcov
     have H2:=Lib.hid hX2
     have H3:=Lib.hid hX3
     have H4:=Lib.hid hX4
     have O0:=Lib.hid o0
     clear hcov hwf hX2 hX3 hX4 o0 hTs
     go_wp2_with fail
     refine (Bt.call OT).mono ?_
     rintro e w6 ⟨v,q,rfl,⟨Z,rfl,hZ,rfl⟩,B1⟩
     clear B OT
     dsimp only
     have HZ:=Lib.hid hZ
     clear hZ
     go_wp2_with fail
     go_ret2
     refine fin_w (W:=W) (h:=h) (l:=[SlP 52 13 ad (l.length+1) cap (ndC ds),StP V st bk sb (txg+1) 0 false K C,SlP 50 12 ad1 Z.length cap1 (ptC Z),BlkP pb (poC V txg root live (.slice sa l.length scap) (.slice ra V.ds.length rcap) (pV bk) (.pointer none) (.pointer ow)) 82,SlP 125 15 sa l.length scap (snC l),SlP 92 2 ra V.ds.length rcap (zrC V.ds.length)]) ii λ w9 B9=>?_
     have B10:=Bt.oS (B9) [1,0,2,3,4,5]
     obtain ⟨dn,N',F',ms',es',ok',B11⟩:=B10.opn
     have B12:=Bt.oS (B11) [7,8,9,4,2,3,6,0,1,5]
     have B13:=(B12.app [_,_,_,_,_,_]).app [_,_]
     have hzx:∀ q∈Z,q∈X:=λ q hq=>onceL_sub (HZ.out.mem_iff.1 hq)
     have hzl:Z.length<=X.length:=by rw [HZ.out.length_eq];exact onceL_len X
     refine ⟨_,⟨Z,ad1,cap1,N',F',ms',es',rfl,⟨ok',by omega,λ q hq=>H2.out q (hzx q hq),?_,λ j n hn=>?_⟩,rfl⟩,B13.fin_at 0 rfl⟩
     ·have tr:Tr (K.on X0) (lvl root.size).toNat root.root g0:=HX0.out.2.2
      exact ⟨O0.out.sz,(tr.mono H3.out).mono (Hc.out Z HZ.out),O0.out.z⟩
     ·exact (H4.out j n (by have:=(List.getElem?_eq_some_iff.1 hn).1;rw [Hdl.out] at this;exact this) hn).mono (Hc.out Z HZ.out)
end
section
variable {V:VD} {pb txg:Nat} {root live:Nd} {l:List Sn} {K:KS} {C:Nat}
theorem PtOk.same {a b:Slc} {secs:Int} {p:Pt} (o:PtOk b secs p) (k:SameS a b):PtOk a secs p :=
 ⟨o.lv,o.bt,by rw [k.may];exact o.a,o.one,λ h=>by rw [k.may,k.tak,k.tak];exact o.b h⟩
theorem takes_N {s:Slc} {p:Pt} {g u:Nat} (ho:0<=p.ag) (h:takesAt s p g u):takeN s p.size (plN p) g u:=by
 obtain ⟨h1,h2,h3⟩:=h
 refine ⟨(p.ag.toNat,p.aa.toNat),by unfold plN;split <;> simp,h1,h2,?_⟩
 rw [Int.toNat_of_nonneg ho]
 exact h3
theorem booked_tq (ht:txg+1<=4294967295) (hl:l.length<=4) (hC9:C<=1000000000) {g0:Nat->UInt8} (o0:Ob K root g0) (ds:List Nd) (hds:live::l.map Sn.dir=ds) (Ts:Nat->Objs) (hTs:∀ j n,ds[j]?=some n->DrT K n (Ts j))
  (sa:Option Addr) (scap:Nat) (ra:Option Addr) (rcap:Nat) (ow:Option Addr) (bk:Nat) (sb:Slc) (N:Nat) (F:Nat->Nat->ByteArray) (ms:List MD) (es:List Nat) (ok:StOk V sb K C N F ms) :
  Tq 30 #[pV pb] (star (PoL V pb txg root live l sa scap ra rcap (some ⟨bk,0,none⟩) none ow bk sb N F ms es)) λ v q =>
   (∃ (e:Int) (N':Nat) (F':Nat->Nat->ByteArray) (ms':List MD) (es':List Nat),v=.int .i64 e/\StOk V sb K C N' F' ms'/\q=star (PoL V pb txg root live l sa scap ra rcap (some ⟨bk,0,none⟩) none ow bk sb N' F' ms' es'))\/∃ (Z:List Pt) (bk':Nat) (sb':Slc) (N':Nat) (F':Nat->Nat->ByteArray) (ms':List MD) (es':List Nat),
    v=.int .i64 0/\(StOk V sb' (K.on Z) C N' F' ms'/\Ob (K.on Z) root g0/\∀ j n,ds[j]?=some n->DrT (K.on Z) n (Ts j))/\q=star (PoL V pb txg root live l sa scap ra rcap (some ⟨bk',0,none⟩) none ow bk' sb' N' F' ms' es'):=by
 refine Tq.of λ W h B=>?_
 have RC:=reach_tq (V:=V) (pb:=pb) (root:=root) ht hl hC9 o0 ds hds Ts hTs sa scap ra rcap ow bk sb N F ms es ok
 clear hds hTs o0 ok
 go_enter Tryz.func30,Tryz.ntmps30
 go_wp2_with fail
 refine (Bt.call RC).mono ?_
 rintro e w1 ⟨v,q,rfl,⟨Z,ad,cap,N1,F1,ms1,es1,rfl,hR,rfl⟩,B1⟩
 clear B RC
 dsimp only
 obtain ⟨ok1,hZl,hZ,hR⟩:=hR
 have B2:=B1.flat
 have B3:=B2.flat
 clear B1 B2
 simp only [PoL,List.cons_append,List.nil_append] at B3
 have HR:=Lib.hid hR
 have Ok1:=Lib.hid ok1
 clear hR ok1
 haveI DV:=isDevs_of (i:=4) B3 rfl
 have df:=devs_facts V F1 w1
 haveI:Geo V.s V.secs:=⟨df.1.g⟩
 haveI:GM V.s w1:=df.2.1
 have AN:=λ (w:World) (_:GM V.s w) (hb:V.s.blk < w.heap.size)=>anew_at V.s V.secs w hb
 have hb0:V.s.blk < w1.heap.size:=(df.2.1.isOld (k:=0) (by have:=df.1.g.1;omega)).h
 clear df
 go_wp2_with ((with_reducible apply wpList_load);(·exact rfl);(·exact ii))
 refine (AN _ ii hb0).mono ?_
 rintro e w2 ⟨bb,g2,cap2,bs,rfl,hg,hn⟩
 have B4:=(B3.join hg hn).flat
 clear B3 hg hn AN hb0 DV
 dsimp only
 simp only [List.cons_append,List.nil_append] at B4
 generalize hs':V.s.at_ g2 cap2=s' at B4
 have sm:SameS s' V.s:=by rw [<-hs'];exact sameS_at _ _ _
 generalize List.replicate V.s.len 0=es0 at B4
 have B5:=B4.app [_,_]
 clear B4
 go_wp2_with fail
 go_loopw [28] (λ iv wr=>∃ (k:Nat) (ms2:List MD),k<=Z.length/\iv=.int .i64 k/\(∀ j p,j < k->Z[j]?=some p->∀ g u,takeN s' p.size (plN p) g u->usedM ms2 g u) /\
   Bt W h [star [GMP s',BookC bb s' V.secs ms2 es0],BlkP pb (poC V txg root live (.slice sa l.length scap) (.slice ra V.ds.length rcap) (pV bk) (.pointer none) (.pointer ow)) 82,SlP 125 15 sa l.length scap (snC l),SlP 92 2 ra V.ds.length rcap (zrC V.ds.length),BookC bk sb V.secs ms1 es1,DevsP V N1 F1,GMP sb,SlP 50 12 ad Z.length cap (ptC Z)] wr)
  (λ iv _=>Z.length - (intOf iv).toNat)
 case atStart=>exact ⟨0,newL V.s V.secs bs,Nat.zero_le _,rfl,λ j p hj=>absurd hj (by omega),B5⟩
 case round =>
  clear B5
  obtain ⟨k,ms2,hk,rfl,hU,B⟩:=hrel
  have HU:=Lib.hid hU
  clear hU
  by_cases hlt:k < Z.length
  ·obtain ⟨p,hp⟩:∃ p,Z[k]?=some p:=⟨_,List.getElem?_eq_getElem hlt⟩
   obtain ⟨b,o,rfl,hb,hc⟩:=(rd_sl B (i:=7) rfl).1.cells k p.cs.toList (by simp [ptC,hp])
   haveI:SubAt b (o+k*12) p.cs 12 wr:=⟨rfl,hb,λ j v e=>hc j v e⟩
   obtain ⟨_,t,hpt⟩:=hZ p (List.mem_of_getElem? hp)
   have po:PtOk s' V.secs p:=by
    have:=(Ok1.out.kept.held p t hpt).ok
    exact this.same sm
   have MK:=mark_tq bb s' V.secs ms2 es0 p po
   have Hp:=Lib.hid hp
   clear hp hc hpt po
   go_wp2_with (first | ((with_reducible apply wpList_load);(·exact rfl);(·exact ii)) | ((with_reducible apply wpList_store);(·exact rfl);(·exact rfl);(·exact ii)))
   refine (Bt.call MK).mono ?_
   rintro e w5 ⟨v,q,rfl,hM,B1⟩
   clear B MK
   dsimp only
   rcases hM with ⟨rfl,ms3,hM,rfl⟩ | ⟨rfl,ms3,hM,rfl⟩
   ·have HM:=Lib.hid hM
    clear hM
    go_wp2_with fail
    refine ⟨⟨k+1,ms3,hlt,by go_num,λ j p' hj hp' g u ht=>(HM.out g u).2 ?_,B1.drop⟩,by simp [intOf];omega⟩
    rcases Nat.lt_or_ge j k with h | h
    ·exact .inl (HU.out j p' h hp' g u ht)
    ·obtain rfl:j=k:=by omega
     have e1:p'=p:=by have:=Hp.out;rw [this] at hp';exact (Option.some.inj hp').symm
     subst e1
     exact .inr ht
   ·clear hM
    go_wp2_with fail
    go_ret
    refine fin_w (W:=W) (h:=h) B1 λ w9 B9=>?_
    have B10:=Bt.oS (B9) [2,3,4,5,6,7,0,1,8]
    exact ⟨_,.inl ⟨3,N1,F1,ms1,es1,rfl,Ok1.out,rfl⟩,(B10.app [_,_,_,_,_,_]).fin_at 0 rfl⟩
  ·obtain rfl:Z.length=k:=by omega
   go_wp2_with fail
   go_ret
   refine fin_w (W:=W) (h:=h) (l:=[star [GMP s',BookC bb s' V.secs ms2 es0],BlkP pb (poC V txg root live (.slice sa l.length scap) (.slice ra V.ds.length rcap) (pV bb) (.pointer none) (.pointer ow)) 82,SlP 125 15 sa l.length scap (snC l),SlP 92 2 ra V.ds.length rcap (zrC V.ds.length),BookC bk sb V.secs ms1 es1,DevsP V N1 F1,GMP sb,SlP 50 12 ad Z.length cap (ptC Z)]) ii λ w9 B9=>?_
   have B10:=B9.flat
   simp only [List.cons_append,List.nil_append] at B10
   have B11:=Bt.oS (B10) [2,3,4,1,6,0,5,7,8]
   have ok1:=Ok1.out
   refine ⟨_,.inr ⟨Z,bb,s',N1,F1,ms2,es0,rfl,⟨⟨sm,⟨λ p t hp=>ok1.kept.held p t hp.1,λ p t hp g u hu=>?_,λ p q t t' hp hq=>ok1.kept.uni p q t t' hp.1 hq.1⟩,ok1.bd⟩,HR.out.1,HR.out.2⟩,rfl⟩,(B11.app [_,_,_,_,_,_]).fin_at 0 rfl⟩
   obtain ⟨j,hj⟩:=List.mem_iff_getElem?.1 hp.2
   have hjl:=(List.getElem?_eq_some_iff.1 hj).1
   refine HU.out j p hjl hj g u ?_
   have f:=Pt.fit_in (ok1.kept.held p t hp.1).fit
   have h1:=takes_N f.1.1 hu
   rw [<-hs']
   exact h1
end
theorem held_ub {s:Slc} {secs:Int} (h:goodG s secs) {F:Nat->Nat->ByteArray} {p:Pt} {t:ByteArray} (hl:Held s secs F p t) {d sl j:Nat} {t':ByteArray} (hs:sl+4<=16) (hj:j<=4):Held s secs (ubF F d sl j t') p t:=by
 refine ⟨hl.ok,hl.fit,hl.size,hl.sum,λ k c e hc he=>?_⟩
 rw [<-hl.at_ k c e hc he]
 obtain ⟨g',a',z',e1,e2,e3,h1,h2,h3⟩:=hl.ok.in_ h
 rw [e1,e2,e3,Int.toNat_natCast,Int.toNat_natCast,Int.toNat_natCast] at hc
 have q:=colL_at h h1 h2 hc
 unfold ubF
 rw [if_neg (by omega)]
theorem StOk.ub {V:VD} {sb:Slc} {K:KS} {C N N':Nat} {F:Nat->Nat->ByteArray} {ms:List MD} (ok:StOk V sb K C N F ms) (h:goodG V.s V.secs) {C':Nat} (hb:N'+64*C'<=1000000000000) {d sl j:Nat} {t':ByteArray} (hs:sl+4<=16) (hj:j<=4):StOk V sb K C' N' (ubF F d sl j t') ms :=
 ⟨ok.same,⟨λ p t hp=>held_ub h (ok.kept.held p t hp) hs hj,ok.kept.used,ok.kept.uni⟩,hb⟩
theorem nfit_k {K:KS} (hK:∀ p t,K p t->p.fit) {n:Nd} {g:Nat->UInt8} (o:Ob K n g):NFit n:=by
 refine ⟨o.sz.1,by have:=o.sz.2;omega,?_⟩
 rcases o.tr.lv with h1 | ⟨_,_,t,h3⟩
 ·rw [h1];exact ⟨by kernel_rfl,zero4_ok⟩
 ·exact hK _ _ h3
theorem call_world {W w:World} {h:Hl} {l:List SP} {f:FuncId} {args:Array Value} {Q:Ending->World->Prop} (B:Bt W h l w) (k:∀ w',Bt W h l w'->Calls Tryz.prog f args w' Q):Calls Tryz.prog f args w Q:=k w B
def tsOf (wd:Wd):Nat->Objs
 | 0=>wd.live
 | j+1=>((wd.snaps[j]?).map Prod.snd).getD wd.live
theorem WOk.ts {K:KS} {txg:Nat} {live:Nd} {l:List Sn} {wd:Wd} (o:WOk K txg live l wd):∀ j n,(live::l.map Sn.dir)[j]?=some n->DrT K n (tsOf wd j)
 | 0,n,h=>by cases h;exact o.live
 | j+1,n,h=>by
  rw [List.getElem?_cons_succ,List.getElem?_map] at h
  obtain ⟨x,hx,rfl⟩:=Option.map_eq_some_iff.1 h
  have hl:l.length=wd.snaps.length:=map_len o.ids
  have hj:j < wd.snaps.length:=by rw [<-hl];exact (List.getElem?_eq_some_iff.1 hx).1
  have hy:=List.getElem?_eq_getElem hj
  have:=o.dirs j x _ hx hy
  simp only [tsOf,hy,Option.map_some,Option.getD_some]
  exact this
theorem WOk.of_ts {K K':KS} {txg:Nat} {live:Nd} {l:List Sn} {wd:Wd} (o:WOk K txg live l wd) (h:∀ j n,(live::l.map Sn.dir)[j]?=some n->DrT K' n (tsOf wd j)):WOk K' (txg+1) live l wd:=by
 have hd:∀ (k:Nat) (x:Sn) (y:Int × Objs),l[k]?=some x->wd.snaps[k]?=some y->DrT K' x.dir y.2:=λ k x y hx hy=>by
  have:=h (k+1) x.dir (by rw [List.getElem?_cons_succ,List.getElem?_map,hx];rfl)
  simpa only [tsOf,hy,Option.map_some,Option.getD_some] using this
 refine ⟨h 0 live rfl,o.ids,hd,⟨o.sn.len,o.sn.id,λ x hx=>by have:=o.sn.txg x hx;omega,λ x hx=>?_,o.sn.up,o.sn.ne⟩⟩
 obtain ⟨k,hk⟩:=List.mem_iff_getElem?.1 hx
 exact (h (k+1) x.dir (by rw [List.getElem?_cons_succ,List.getElem?_map,hk];rfl)).ob
section
variable {V:VD} {pb txg:Nat} {root:Nd} {C:Nat} {wd:Wd}
theorem sync_tq (ht:txg+1<=4294967294) (hC:70010<=C) :
  Tq 10 #[pV pb] (PoS V pb txg root C (λ _ _=>False) wd) λ v q =>
   (∃ e:Int,e≠0/\v=.int .i64 e/\q=star [])\/∃ n':Nd,v=.int .i64 0/\q=PoS V pb (txg+1) n' (C - 70010) (λ _ _=>False) wd:=by
 refine Tq.of λ W h B0=>?_
 obtain ⟨K,live,l,⟨_,wok⟩,B1⟩:=B0.pos
 clear B0
 obtain ⟨sa,scap,ra,rcap,ob,owk,ow,bk,sb,N,F,ms,es,⟨ok,hC9⟩,pv,B⟩:=B1.po
 clear B1
 simp only [PoL,List.cons_append,List.nil_append] at B
 have hl:=wok.sn.len
 have hdn:V.ds.length<=100:=by
  haveI:=isDevs_of (i:=4) B rfl
  exact (devs_facts V F W).1.le
 have DN:∀ w,[CellsIn w pb (poC V txg root live (.slice sa l.length scap) (.slice ra V.ds.length rcap) (.pointer ob) (.pointer owk) (.pointer ow))]->Fn 20 #[pV pb] w (.bool false):=λ w _=>down_fn V pb txg root live _ _ _ _ _ w
 have DP:=drop_po (V:=V) (pb:=pb) (txg:=txg) (root:=root) (live:=live) (ss:=.slice sa l.length scap) (sl:=.slice ra V.ds.length rcap) pv
 go_enter Tryz.func10,Tryz.ntmps10
 go_wp2_with (with_reducible refine Fn.go λ g=>?_)
 refine (Bt.call DP).mono ?_
 rintro e w1 ⟨v,q,rfl,rfl,B1⟩
 clear B DN DP
 dsimp only at B1 ⊢
 go_wp2_with fail
 (first | (with_reducible refine pl2 (.q [0,1,2,3,5,6,7,8,9] (.g 4 (.g 10 (.q [11,12] .d)))) ?_) | refine pl1 (.q [0,1,2,3,5,6,7,8,9] (.g 4 (.g 10 (.q [11,12] .d)))) ?_);simp only [Plan.run,pick,gZ,gS,gA,gN]
 (repeat (first | ((with_reducible apply wpQuiet_load);(·exact rfl);(·rintro _ ⟨gq,rfl⟩;exact ii);go_frame) | go_big_quiet_step (exact qZ)));refine nZ ?_
 rintro w2 hw2
 have B2:Bt W h _ w2:=btCls hw2
 haveI:=book_bk B2 (i:=3) rfl
 go_wp2_with fail
 refine (bcopy_at bk sb V.secs ms es _).mono ?_
 rintro e w3 ⟨wb,ms',rfl,hal,hg,hn⟩
 have B3:=B2.join hg hn
 dsimp only
 go_wp2_with fail
 dsimp only [Nx]
 refine ⟨clsTr hw2 hg,?_⟩
 clear hn hg hw2 B2 hal
 rintro w4 hw4
 have B4:Bt W h _ w4:=btCls hw4
 clear B3
 have r2:=rd_sl B4 (i:=3) rfl
 haveI:=r2.1
 go_wp2_with fail
 refine (clnR ra V.ds.length rcap (zrC V.ds.length) w4 (by omega) (zrC_z _) (zrC_one _) r2.2.2).mono ?_
 rintro e w5 ⟨ad',cap',rfl,hO,_⟩
 obtain ⟨g5,rfl⟩:=hO.grw
 dsimp only
 go_wp2_with fail
 dsimp only [Nx]
 refine ⟨clsTr hw4 ⟨_,rfl⟩,?_⟩
 clear hO hw4 r2
 (repeat go_big_quiet_step (exact qZ));refine nZ ?_
 refine btI ?_
 intro w6 B6
 clear B4
 go_wp2_with fail
 haveI:=isDevs_of (i:=5) B6 rfl
 refine (missed_at V F pb txg root live _ _ _ _ _ w6).mono ?_
 rintro e w7 ⟨⟨v7,rfl⟩,g7,rfl⟩
 have B7:Bt W h _ (gr w6 g7):=ii
 clear this
 dsimp only
 obtain ⟨t,hmt⟩:∃ t,msB live l V.ds.length=t:=⟨_,rfl⟩
 have hK:∀ {n:Nd} {g:Nat->UInt8},Ob K n g->NFit n:=λ o=>nfit_k (λ p t hp=>(ok.kept.held p t hp).fit) o
 have OB:=object_tq (V:=V) (pb:=pb) (root:=root) (txg:=txg) (by omega) hl (by obtain ⟨g,o⟩:=wok.live.ob;exact hK o) (λ x hx=>by obtain ⟨g,o⟩:=wok.sn.dir x hx;exact hK o) (λ x hx=>⟨wok.sn.id x hx,by have:=wok.sn.txg x hx;omega⟩) (by omega) hC9 t hmt sa scap ra rcap ow bk sb N F ms es ok
 have B7b:=Bt.oS (B7) [1,2,3,4,5,6,0]
 have B8:Bt W h [star (PoL V pb txg root live l sa scap ra rcap (some ⟨bk,0,none⟩) none ow bk sb N F ms es),BookC wb sb V.secs ms' es] (gr w6 g7):=B7b.app [_,_,_,_,_,_]
 clear B7 B7b B6 hmt
 go_wp2_with fail
 refine (Bt.call OB (B:=B8)).mono ?_
 rintro e w8 ⟨v,q,rfl,⟨n',er,K',N1,F1,ms1,es1,rfl,⟨ok1,hKK,hob⟩,rfl⟩,B9⟩
 clear B8 OB
 dsimp only
 have Hob:=Lib.hid hob
 clear hob
 have B10:=B9.flat
 clear B9
 simp only [PoL,List.cons_append,List.nil_append] at B10
 by_cases he:er=0
 ·subst he
  go_wp2_with ((with_reducible apply wpList_store);(·exact rfl);(·exact rfl);(·exact ii))
  have TX:∀ w,[CellsIn w pb (poC V txg root live (.slice sa l.length scap) (.slice ra V.ds.length rcap) (pV bk) (.pointer none) (.pointer ow))]->Fn 26 #[pV pb] w (.int .i64 (txg+1:Nat)):=λ w _=>txg_fn V pb txg root live _ _ _ _ _ w (txg+1:Nat) (by omega) (by omega) (by omega)
  (first | (with_reducible refine pl2 (.q [0,2] (.c 1 (.q [3] (.g 4 (.x [5] .d))))) ?_) | refine pl1 (.q [0,2] (.c 1 (.q [3] (.g 4 (.x [5] .d))))) ?_);simp only [Plan.run,pick,gZ,gS,gA,gN]
  (repeat go_big_quiet_step (exact qZ));refine nZ ?_
  (with_reducible apply cNode);(·kernel_rfl);(·rintro _ ⟨gC,rfl⟩;simp [Act.eval];exact inferInstance)
  (try go_frame)
  (repeat go_big_quiet_step (exact qZ));refine nZ ?_
  rintro w9 hw9
  have B11:Bt W h _ w9:=btCls hw9
  clear B10
  go_wp2_with fail
  dsimp only [Nx]
  refine ⟨clsAl hw9 _,?_⟩
  clear hw9
  refine btI ?_
  intro w10 B12
  clear B11
  go_wp2_with ((with_reducible apply wpList_store);(·exact rfl);(·exact rfl);(·exact ii))
  dsimp only [Nx]
  refine btI ?_
  intro w11 B13
  clear B12
  go_wp2_with fail
  have FL:=flushed_tq V F1 N1 pb txg root live (.slice sa l.length scap) (.slice ra V.ds.length rcap) (pV bk) (.pointer none) (.pointer ow)
  have B14:=Bt.oS (B13) [2,6,0,1,3,4,5,7,8]
  have B15:=B14.app [_,_]
  clear B13 B14
  refine (Bt.call FL (B:=B15)).mono ?_
  rintro e w12 ⟨v12,q,rfl,⟨rfl,rfl⟩,B16⟩
  clear B15
  have B17:=B16.flat
  clear B16
  simp only [List.cons_append,List.nil_append] at B17
  dsimp only
  haveI hnf:NFit n':=by
   obtain ⟨g,o,_⟩:=Hob.out trivial
   exact nfit_k (λ p t hp=>(ok1.kept.held p t hp).fit) o
  have UW:=uwrite_tq V N1 F1 (txg+1) n' (by omega) (by have:=ok1.bd;omega)
  go_wp2_with fail
  (first | (with_reducible refine pl2 (.q [0,1,2,3,4] (.x [5] (.q [6,7,8,9,10] .d))) ?_) | refine pl1 (.q [0,1,2,3,4] (.x [5] (.q [6,7,8,9,10] .d))) ?_);simp only [Plan.run,pick,gZ,gS,gA,gN]
  (repeat (first | ((with_reducible apply wpQuiet_load);(·exact rfl);(·rintro _ ⟨gq,rfl⟩;exact ii);go_frame) | go_big_quiet_step (exact qZ)));refine nZ ?_
  refine btI ?_
  intro w13 B18
  clear B17
  go_wp2_with fail
  refine (Bt.call UW (B:=B18)).mono ?_
  rintro e w14 ⟨v14,q,rfl,⟨rfl,rfl⟩,B19⟩
  clear B18 UW
  dsimp only
  go_wp2_with fail
  dsimp only [Nx]
  (repeat go_big_quiet_step (exact qZ));refine nZ ?_
  refine btI ?_
  intro w15 B20
  clear B19
  go_wp2_with fail
  haveI:=isDevs_of (i:=1) B20 rfl
  refine (gone_fn V _ pb txg root live _ _ _ _ _ w15).1.mono ?_
  rintro e w16 ⟨rfl,hb⟩
  obtain ⟨g16,rfl⟩:=gr_of_below hb
  have B21:Bt W h _ (gr w15 g16):=ii
  clear hb B20 this
  dsimp only
  have FL2:=flushed_tq V (ubF F1 V.ds.length ((txg+1) % 4*4) 0 (ubS V.s V.secs (txg+1:Nat) n')) (N1+4*V.ds.length) pb txg root live (.slice sa l.length scap) (.slice ra V.ds.length rcap) (pV bk) (.pointer none) (.pointer ow)
  go_wp2_with fail
  have B22:=B21.app [_,_]
  refine (Bt.call FL2 (B:=B22)).mono ?_
  rintro e w17 ⟨v17,q,rfl,⟨rfl,rfl⟩,B23⟩
  clear B22 B21 FL2
  have B24:=B23.flat
  clear B23
  simp only [List.cons_append,List.nil_append] at B24
  dsimp only
  have ok2:=ok1.ub (V:=V) (C':=C - 70010) (N':=N1+4*V.ds.length) (d:=V.ds.length) (sl:=(txg+1) % 4*4) (j:=0) (t':=ubS V.s V.secs (txg+1:Nat) n') (by
   haveI:=isDevs_of (i:=1) B24 rfl
   exact (devs_facts V _ w17).1.g) (by have:=ok1.bd;omega) (by omega) (by omega)
  generalize ubF F1 V.ds.length ((txg+1) % 4*4) 0 (ubS V.s V.secs (txg+1:Nat) n')=F2 at B24 ok2
  go_wp2_with (first | ((with_reducible apply wpList_load);(·exact rfl);(·exact ii)) | ((with_reducible apply wpList_store);(·exact rfl);(·exact rfl);(·exact ii)))
  refine call_world (W:=W) (h:=h) ii ?_
  clear B24
  intro w18 B25
  have B26:=Bt.oS (B25) [0,4,5,6,1,7,2,3,8]
  have B27:Bt W h (star (PoL V pb (txg+1) n' live l sa scap ra rcap (some ⟨bk,0,none⟩) none ow bk sb (N1+4*V.ds.length) F2 ms1 es1)::_) w18:=B26.app [_,_,_,_,_,_]
  clear B25 B26
  obtain ⟨g0,o0,_⟩:=Hob.out trivial
  have wok1:WOk K' txg live l wd:=wok.mono hKK (Nat.le_refl _)
  have BK:=booked_tq (V:=V) (pb:=pb) (txg:=txg+1) (root:=n') (by omega) hl (by omega) o0 _ rfl (tsOf wd) wok1.ts sa scap ra rcap ow bk sb _ F2 ms1 es1 ok2
  have Wk:=Lib.hid wok1
  have Ok2:=Lib.hid ok2
  clear wok wok1 ok2 ok1 ok o0 Hob
  refine (Bt.call BK (B:=B27)).mono ?_
  rintro e w19 ⟨v19,q,rfl,hR,B28⟩
  clear B27 BK
  have hv:∃ e:Int,v19=.int .i64 e:=by rcases hR with ⟨e,_,_,_,_,rfl,_⟩ | ⟨_,_,_,_,_,_,_,rfl,_⟩ <;> exact ⟨_,rfl⟩
  have HR:=Lib.hid hR
  clear hR
  obtain ⟨e19,rfl⟩:=hv
  dsimp only
  go_wp2_with fail
  go_ret
  refine fin_w (W:=W) (h:=h) B28 λ w9 B9=>?_
  rcases HR.out with ⟨_,N3,F3,ms3,es3,_,ok3,rfl⟩ | ⟨Z,bk3,sb3,N3,F3,ms3,es3,_,⟨ok3,_,hT⟩,rfl⟩
  ·exact ⟨_,.inr ⟨n',rfl,rfl⟩,(B9.head λ h' r=>⟨K',live,l,⟨(λ _ _ e=>e.elim),Wk.out.of_ts Wk.out.ts⟩,sa,scap,ra,rcap,_,_,ow,bk,sb,N3,F3,ms3,es3,⟨ok3,by omega⟩,.inl ⟨rfl,rfl⟩,r⟩).fin_at 0 rfl⟩
  ·exact ⟨_,.inr ⟨n',rfl,rfl⟩,(B9.head λ h' r=>⟨_,live,l,⟨(λ _ _ e=>e.elim),Wk.out.of_ts hT⟩,sa,scap,ra,rcap,_,_,ow,bk3,sb3,N3,F3,ms3,es3,⟨ok3,by omega⟩,.inl ⟨rfl,rfl⟩,r⟩).fin_at 0 rfl⟩
 ·have hne:(er != 0)=true:=by simp [he]
  have He:=Lib.hid he
  clear he
  go_wp2_with ((with_reducible apply wpList_store);(·exact rfl);(·exact rfl);(·exact ii))
  go_ret
  exact fin_w (W:=W) (h:=h) ii λ w9 B9=>⟨_,.inl ⟨er,He.out,rfl,rfl⟩,B9.t.mono λ _ _=>trivial⟩
end
theorem zr_flat (n:Nat):(zrC n).flatten=List.replicate (n*2) (.int .i64 0):=by
 induction n with
 | zero=>rfl
 | succ n ih =>
  rw [zrC,List.replicate_succ,List.flatten_cons,Nat.add_mul,Nat.add_comm (n*2)]
  rw [zrC] at ih
  rw [ih,<- List.replicate_append_replicate]
  rfl
theorem made_zr (n:Nat):(madeCells #[.int .i64 0,.int .i64 0] (n*2)).toList=(zrC n).flatten:=by
 rw [zr_flat,List.eq_replicate_iff]
 refine ⟨by simp [madeCells],λ b hb=>?_⟩
 simp only [madeCells,Array.toList_map,List.mem_map] at hb
 obtain ⟨k,_,rfl⟩:=hb
 have:k % 2=0\/k % 2=1:=by omega
 rcases this with h | h <;> simp [h]
section
variable {ops:Array Oper} {rest:List Oper} {Q:Exit->Act->World->Prop} {a:Act} {w:World} {d:Option Tmp} {ty:TypeId} {pos:String} {aft:Array Edge}
theorem build_st (w:World) (g:Nat) (n c:Nat):(Instr.build 78 #[(3,.slice (some ⟨g,0,none⟩) n c)]).run Tryz.prog w=.ok (.agg (mC Nd.none (.slice none 0 0) (.slice (some ⟨g,0,none⟩) n c))) w:=by kernel_rfl
theorem build_po (V:VD) (w:World) (b g:Nat) (n c:Nat):(Instr.build 82 #[(0,.agg V.cs),(3,pV b),(2,.agg (mC Nd.none (.slice none 0 0) (.slice (some ⟨g,0,none⟩) n c)))]).run Tryz.prog w=.ok (.agg (poC V 0 Nd.none Nd.none (.slice none 0 0) (.slice (some ⟨g,0,none⟩) n c) (pV b) (.pointer none) (.pointer none))) w:=by kernel_rfl
variable {Cw:World->Prop} {Kq:Act->Prop}
theorem wpQuiet_build_st {x:Operand} {g n c:Nat} (hx:a.eval x=.slice (some ⟨g,0,none⟩) n c) (h:wpQuiet Tryz.prog ops Cw Kq rest (a.put d (.agg (mC Nd.none (.slice none 0 0) (.slice (some ⟨g,0,none⟩) n c))))):wpQuiet Tryz.prog ops Cw Kq ({ dst:=d,op:=.build 78 #[(3,x)],type:=ty,pos:=pos,after:=aft,guard:=none }::rest) a:=by
 refine wpQuiet_value (v:=.agg _) rfl (λ w hw=>?_) h
 simp only [execOp,List.map_toArray,List.map_cons,List.map_nil,hx,Sem.run_bind,build_st w g n c,Result.andThen_ok,Sem.run_pure]
theorem wpQuiet_build_po {V:VD} {x y z:Operand} {b g n c:Nat} (hx:a.eval x=.agg V.cs) (hy:a.eval y=pV b) (hz:a.eval z=.agg (mC Nd.none (.slice none 0 0) (.slice (some ⟨g,0,none⟩) n c))) (h:wpQuiet Tryz.prog ops Cw Kq rest (a.put d (.agg (poC V 0 Nd.none Nd.none (.slice none 0 0) (.slice (some ⟨g,0,none⟩) n c) (pV b) (.pointer none) (.pointer none))))):wpQuiet Tryz.prog ops Cw Kq ({ dst:=d,op:=.build 82 #[(0,x),(3,y),(2,z)],type:=ty,pos:=pos,after:=aft,guard:=none }::rest) a:=by
 refine wpQuiet_value (v:=.agg _) rfl (λ w hw=>?_) h
 simp only [execOp,List.map_toArray,List.map_cons,List.map_nil,hx,hy,hz,Sem.run_bind,build_po V w b g n c,Result.andThen_ok,Sem.run_pure]
theorem range_el:∃ i,Tryz.prog.info? 92=some i/\i.zero=some (.agg #[.int .i64 0,.int .i64 0])/\i.size=2/\i.bytes=16:=by
 have h2:(Tryz.prog.info? 92).map (λ i=>(i.zero,i.size,i.bytes))=some (some (.agg #[.int .i64 0,.int .i64 0]),2,16):=by kernel_rfl
 cases hi:Tryz.prog.info? 92 with
 | none=>rw [hi] at h2;cases h2
 | some i =>
  rw [hi] at h2
  simp only [Option.map_some,Option.some.injEq,Prod.mk.injEq] at h2
  exact ⟨i,rfl,h2.1,h2.2.1,h2.2.2⟩
theorem wpList_makeR {x y:Operand} {kl kc:IntKind} {n:Nat} (hx:a.eval x=.int kl (n:Int)) (hy:a.eval y=.int kc (n:Int)) (hn:n<=1000000)
  (h:∀ w',(∃ g,w'=gr w g)->OwnS 92 2 (some ⟨w.heap.size,0,none⟩) n n (zrC n).flatten w' w->wpList Tryz.prog ops Q rest (a.put d (.slice (some ⟨w.heap.size,0,none⟩) n n)) w') :
  wpList Tryz.prog ops Q ({ dst:=d,op:=.makeSlice 76 x y,type:=ty,pos:=pos,after:=aft,guard:=none }::rest) a w:=by
 obtain ⟨i,hi,hz,hs,hb⟩:=range_el
 refine wpList_make_full w rfl x y 76 rfl w.heap.size 92 i _ 2 Tryz.underlying76 hi hz hs kl kc _ _ n hx hy rfl rfl (by rw [hb];omega) (by unfold maxLen;omega) (Nat.le_refl _) ?_
 intro w' ho hg
 obtain ⟨g,rfl⟩:=gr_of_below (Below.grown (Below.refl w.heap.size w) hg (Nat.le_refl _) (λ k hk=>by cases hk))
 rw [show (Value.agg #[.int .i64 0,.int .i64 0]).cells=#[.int .i64 0,.int .i64 0] from rfl,made_zr] at ho
 exact h _ ⟨g,rfl⟩ ⟨ho,g,rfl⟩
end
section
variable {V:VD}
theorem made_tq (N C:Nat) (F:Nat->Nat->ByteArray) (hC:C<=1000000000) (hN:N+64*C<=1000000000000) :
  Tq 34 #[V.v] (DevsP V N F) λ v q=>∃ pb,v=pV pb/\q=PoS V pb 0 Nd.none C (λ _ _=>False) ⟨λ _=>none,[]⟩:=by
 refine Tq.of λ W h B=>?_
 go_enter Tryz.func34,Tryz.ntmps34
 go_wp2_with ((with_reducible apply wpList_load);(·exact rfl);(·exact ii))
 refine call_world (W:=W) (h:=h) ii ?_
 clear B
 intro w1 B1
 haveI:=isDevs_of (i:=1) B1 rfl
 have df:=devs_facts V F w1
 haveI:Geo V.s V.secs:=⟨df.1.g⟩
 haveI:GM V.s w1:=df.2.1
 have hb0:V.s.blk < w1.heap.size:=(df.2.1.isOld (k:=0) (by have:=df.1.g.1;omega)).h
 have hle:=df.1.le
 refine (anew_at V.s V.secs w1 hb0).mono ?_
 rintro e w2 ⟨bb,g2,cap2,bs,rfl,hg,hn⟩
 have B4:=(B1.join hg hn).flat
 clear B1 hg hn hb0 this df
 dsimp only
 simp only [List.cons_append,List.nil_append] at B4
 go_wp2_with fail
 (first | (with_reducible refine pl2 (.q [0,1,2,3,4] (.g 5 (.q [6,7] (.g 8 (.q [9] .d))))) ?_) | refine pl1 (.q [0,1,2,3,4] (.g 5 (.q [6,7] (.g 8 (.q [9] .d))))) ?_);simp only [Plan.run,pick,gZ,gS,gA,gN]
 (repeat (first | ((with_reducible apply wpQuiet_load);(·exact rfl);(·rintro _ ⟨gq,rfl⟩;exact ii);go_frame) | go_big_quiet_step (exact qZ)));refine nZ ?_
 rintro w3 hw3
 have B5:Bt W h _ w3:=btCls hw3
 clear B4
 refine wpList_makeR (n:=V.ds.length) rfl rfl (by omega) ?_
 intro w4 hg hO
 obtain ⟨hp,j4,r4,o4⟩:=own_heap hO (by simp [zrC]) (by intro x hx;rw [zrC,List.mem_replicate] at hx;rw [hx.2];rfl)
 have B6:=B5.join (p:=SlP 92 2 (some ⟨w3.heap.size,0,none⟩) V.ds.length V.ds.length (zrC V.ds.length)) hg ⟨hp,⟨by simp [zrC],(by intro x hx;rw [zrC,List.mem_replicate] at hx;rw [hx.2];rfl),.inr ⟨_,rfl,by unfold maxLen;omega,r4⟩⟩,j4,o4⟩
 clear B5 hO j4 r4 o4
 go_wp2_with fail
 dsimp only [Nx]
 refine ⟨clsTr hw3 hg,?_⟩
 clear hw3 hg
 refine wpQuiet_build_st rfl ?_
 go_frame
 refine wpQuiet_build_po (V:=V) (b:=bb) rfl rfl rfl ?_
 go_frame
 (repeat go_big_quiet_step (exact qZ));refine nZ ?_
 rintro w5 hw5
 have B7:Bt W h _ w5:=btCls hw5
 clear B6
 go_wp2_with fail
 dsimp only [Nx]
 refine ⟨clsAl hw5 _,?_⟩
 clear hw5
 (repeat go_big_quiet_step (exact qZ));refine nZ ?_
 refine btI ?_
 intro w6 B8
 clear B7
 go_wp2_with fail
 go_ret
 refine fin_w (W:=W) (h:=h) B8 λ w9 B9=>?_
 have B10:=B9.more (SlP.nil 125 15 _)
 simp only [List.cons_append,List.nil_append] at B10
 have B11:=Bt.oS (B10) [0,6,1,3,5,2,4]
 have B12:=B11.app [_,_,_,_,_,_]
 exact ⟨_,⟨w5.heap.size,rfl,rfl⟩,(B12.head λ h' r=>⟨λ _ _=>False,Nd.none,[],⟨λ _ _ e=>e,⟨DrT.none _,rfl,λ k x y e=>(by simp at e),⟨by simp,by simp,by simp,by simp,by simp,by simp⟩⟩⟩,none,0,_,_,some ⟨bb,0,none⟩,none,none,bb,_,N,F,_,_,⟨⟨sameS_at _ _ _,⟨λ _ _ e=>e.elim,λ _ _ e=>e.elim,λ _ _ _ _ e=>e.elim⟩,hN⟩,hC⟩,.inl ⟨rfl,rfl⟩,r⟩).fin_at 0 rfl⟩
end
section
variable {V:VD}
theorem create_tq (N C:Nat) (F:Nat->Nat->ByteArray) (hC:70010<=C/\C<=1000000000) (hN:N+64*C<=1000000000000) :
  Tq 44 #[V.v] (DevsP V N F) λ v q=>(∃ e:Int,e≠0/\v=.tuple #[.pointer none,.int .i64 e]/\q=star [])\/∃ (pb:Nat) (n':Nd),v=.tuple #[pV pb,.int .i64 0]/\q=PoS V pb 1 n' (C - 70010) (λ _ _=>False) ⟨λ _=>none,[]⟩:=by
 refine Tq.of λ W h B=>?_
 have MD:=made_tq (V:=V) N C F hC.2 hN
 go_enter Tryz.func44,Tryz.ntmps44
 go_wp2_with ((with_reducible apply wpList_load);(·exact rfl);(·exact ii))
 refine call_world (W:=W) (h:=h) ii ?_
 clear B
 intro w1 B1
 haveI:=isDevs_of (i:=1) B1 rfl
 refine (vright_fn V F w1).1.mono ?_
 rintro e w2 ⟨rfl,hb⟩
 obtain ⟨g2,rfl⟩:=gr_of_below hb
 have B2:Bt W h _ (gr w1 g2):=ii
 clear hb B1 this
 dsimp only
 go_wp2_with ((with_reducible apply wpList_load);(·exact rfl);(·exact ii))
 refine (Bt.call MD (B:=B2)).mono ?_
 rintro e w3 ⟨v,q,rfl,⟨pb,rfl,rfl⟩,B3⟩
 clear B2 MD
 dsimp only
 have SY:=sync_tq (V:=V) (pb:=pb) (txg:=0) (root:=Nd.none) (C:=C) (wd:=⟨λ _=>none,[]⟩) (by omega) hC.1
 go_wp2_with fail
 refine (Bt.call SY (B:=B3)).mono ?_
 rintro e w4 ⟨v,q,rfl,hR,B4⟩
 clear B3 SY
 dsimp only
 rcases hR with ⟨er,he,rfl,rfl⟩ | ⟨n',rfl,rfl⟩
 ·have hne:(er != 0)=true:=by simp [he]
  have He:=Lib.hid he
  clear he
  go_wp2_with fail
  go_ret2
  exact fin_w (W:=W) (h:=h) B4 λ w9 B9=>⟨_,.inl ⟨er,He.out,rfl,rfl⟩,B9.t.mono λ _ _=>trivial⟩
 ·go_wp2_with fail
  go_ret2
  exact fin_w (W:=W) (h:=h) B4 λ w9 B9=>⟨_,.inr ⟨pb,n',rfl,rfl⟩,B9.drop.fin_at 0 rfl⟩
end
theorem rng_set {α:Type} (f:Nat->α) (n k:Nat) (v:α):((List.range n).map f).set k v=(List.range n).map (updN f k v):=by
 refine List.ext_getElem? λ j=>?_
 rw [List.getElem?_set,List.getElem?_map,List.getElem?_map]
 by_cases h:k=j
 ·subst h
  by_cases hk:k < n
  ·simp [hk,updN]
  ·simp [hk]
 ·have h2:¬ j=k:=λ e=>h e.symm
  rw [if_neg h]
  by_cases hk:j < n
  ·simp [hk,updN,h2]
  ·simp [hk]
theorem updV {α:Type} (g:α->Value) (H:Nat->α) (k:Nat) (v:α):updN (λ j=>g (H j)) k (g v)=λ j=>g (updN H k v j):=by funext j;unfold updN;split <;> rfl
def hasC (H:Nat->Bool):List Value:=(List.range 32).map λ k=>.bool (H k)
def txtC (X:Nat->ByteArray):List Value:=(List.range 32).map λ k=>.string (X k)
def seL (H:Nat->Bool) (X:Nat->ByteArray):List Value:=hasC H++txtC X
def wlL (H:Nat->Bool) (X:Nat->ByteArray) (a b:Value):List Value:=seL H X++[a,b]
def seC (H:Nat->Bool) (X:Nat->ByteArray):Array Value:=(seL H X).toArray
def wlC (H:Nat->Bool) (X:Nat->ByteArray) (a b:Value):Array Value:=(wlL H X a b).toArray
section
variable (H:Nat->Bool) (X:Nat->ByteArray) (a b:Value)
theorem hasC_len:(hasC H).length=32:=by simp [hasC]
theorem seL_len:(seL H X).length=64:=by simp [seL,hasC,txtC]
theorem wlL_len:(wlL H X a b).length=66:=by simp [wlL,seL_len]
theorem seL_has {k:Nat} (hk:k < 32):(seL H X)[k]?=some (.bool (H k)):=by
 unfold seL
 rw [List.getElem?_append_left (by rw [hasC_len];exact hk)]
 simp [hasC,hk]
theorem seL_txt {k:Nat} (hk:k < 32):(seL H X)[32+k]?=some (.string (X k)):=by
 unfold seL
 rw [List.getElem?_append_right (by rw [hasC_len];omega),hasC_len,Nat.add_sub_cancel_left]
 simp [txtC,hk]
theorem seL_set1 {k:Nat} (hk:k < 32) (v:Bool):(seL H X).set k (.bool v)=seL (updN H k v) X:=by
 unfold seL
 rw [List.set_append_left _ _ (by rw [hasC_len];exact hk)]
 unfold hasC
 rw [rng_set,updV (λ x=>Value.bool x)]
theorem seL_set2 {k:Nat} (v:ByteArray):(seL H X).set (32+k) (.string v)=seL H (updN X k v):=by
 unfold seL
 rw [List.set_append_right _ _ (by rw [hasC_len];omega),hasC_len,Nat.add_sub_cancel_left]
 unfold txtC
 rw [rng_set,updV (λ x=>Value.string x)]
theorem wlC_has {k:Nat} (hk:k < 32):(wlC H X a b)[k]?=some (.bool (H k)):=by
 unfold wlC wlL
 rw [List.getElem?_toArray,List.getElem?_append_left (by rw [seL_len];omega),seL_has H X hk]
theorem wlC_txt {k:Nat} (hk:k < 32):(wlC H X a b)[32+k]?=some (.string (X k)):=by
 unfold wlC wlL
 rw [List.getElem?_toArray,List.getElem?_append_left (by rw [seL_len];omega),seL_txt H X hk]
theorem wlC_64:(wlC H X a b)[64]?=some a:=by
 unfold wlC wlL
 rw [List.getElem?_toArray,List.getElem?_append_right (by rw [seL_len];omega),seL_len];rfl
theorem wlC_65:(wlC H X a b)[65]?=some b:=by
 unfold wlC wlL
 rw [List.getElem?_toArray,List.getElem?_append_right (by rw [seL_len];omega),seL_len];rfl
theorem wlC_set1 {k:Nat} (hk:k < 32) (v:Bool):(wlC H X a b).setIfInBounds k (.bool v)=wlC (updN H k v) X a b:=by
 unfold wlC wlL
 rw [List.setIfInBounds_toArray,List.set_append_left _ _ (by rw [seL_len];omega),seL_set1 H X hk]
theorem wlC_set2 {k:Nat} (hk:k < 32) (v:ByteArray):(wlC H X a b).setIfInBounds (32+k) (.string v)=wlC H (updN X k v) a b:=by
 unfold wlC wlL
 rw [List.setIfInBounds_toArray,List.set_append_left _ _ (by rw [seL_len];omega),seL_set2 H X]
theorem wlC_set64 (v:Value):(wlC H X a b).setIfInBounds 64 v=wlC H X v b:=by
 unfold wlC wlL
 rw [List.setIfInBounds_toArray,List.set_append_right _ _ (by rw [seL_len];omega),seL_len];rfl
theorem wlC_set65 (v:Value):(wlC H X a b).setIfInBounds 65 v=wlC H X a v:=by
 unfold wlC wlL
 rw [List.setIfInBounds_toArray,List.set_append_right _ _ (by rw [seL_len];omega),seL_len];rfl
end
def hasO (T:Objs) (k:Nat):Bool:=(T k).isSome
def txtO (T:Objs) (k:Nat):ByteArray:=(T k).getD ⟨#[]⟩
theorem hasO_some (T:Objs) (k:Nat) (t:ByteArray):updN (hasO T) k true=hasO (updN T k (some t)):=by funext j;unfold hasO updN;split <;> rfl
theorem txtO_some (T:Objs) (k:Nat) (t:ByteArray):updN (txtO T) k t=txtO (updN T k (some t)):=by funext j;unfold txtO updN;split <;> rfl
theorem hasO_none (T:Objs) (k:Nat):updN (hasO T) k false=hasO (updN T k none):=by funext j;unfold hasO updN;split <;> rfl
theorem txtO_none (T:Objs) (k:Nat):updN (txtO T) k ⟨#[]⟩=txtO (updN T k none):=by funext j;unfold txtO updN;split <;> rfl
theorem hasO_cut {T:Objs} {k:Nat} (h:(T k).isSome=true) (t:ByteArray):hasO T=hasO (updN T k (some t)):=by funext j;unfold hasO updN;split;(rename_i e;rw [e,h];rfl);rfl
def seO (T:Objs):List Value:=seL (hasO T) (txtO T)
def idC (l:List (Int × Objs)):List (List Value):=l.map λ y=>[.int .i64 y.1]
def ssC (l:List (Int × Objs)):List (List Value):=l.map λ y=>seO y.2
structure AcV where
 d:UInt8
 id:Int
 off:Int
 n:Int
 fill:UInt8
def AcV.cs (a:AcV):Array Value:=#[.int .u8 a.d.toNat,.int .i64 a.id,.int .i64 a.off,.int .i64 a.n,.int .u8 a.fill.toNat]
def cntN (n:Int):Nat:=(min (max n 0) 600).toNat / 4*4
theorem cntN_le (n:Int):cntN n<=600:=by unfold cntN;omega
def DoK (m:Nat) (a:AcV) (wd wd':Wd):Prop :=
 match m with
 | 3=>CuO a.id a.off wd wd'
 | 4=>ReO a.id wd wd'
 | 5=>SpO a.id wd wd'
 | 6=>DeO a.id wd wd'
 | 7=>RoO a.id wd wd'
 | _=>WrO a.id a.off (fillS a.fill (cntN a.n)) wd wd'
def DoO (a:AcV) (wd wd':Wd):Prop:=DoK (a.d.toNat % 8) a wd wd'
structure WdOk (wd:Wd):Prop where
 len:wd.snaps.length<=4
 nd:(wd.snaps.map Prod.fst).Nodup
 pos:∀ y∈wd.snaps,0<=y.1
 live:∀ k t,wd.live k=some t->t.size<=16384
 old:∀ y∈wd.snaps,∀ k t,y.2 k=some t->t.size<=16384
theorem wrT_size {t s:ByteArray} {o:Nat} (ht:t.size<=16384) (h:o+s.size<=16384):(wrT t o s).size<=16384:=by
 unfold wrT
 rw [txt_size]
 split <;> omega
theorem cutT_size {t:ByteArray} {o:Nat} (h:o<=16384):(cutT t o).size<=16384:=by
 unfold cutT
 rw [txt_size];exact h
theorem upd_ok {T:Objs} {k:Nat} {o:Option ByteArray} (h:∀ k t,T k=some t->t.size<=16384) (ho:∀ t,o=some t->t.size<=16384):∀ j t,updN T k o j=some t->t.size<=16384:=λ j t e=>by
 unfold updN at e
 split at e
 ·exact ho t e
 ·exact h j t e
theorem DoO.ok {a:AcV} {wd wd':Wd} (d:DoO a wd wd') (o:WdOk wd):WdOk wd':=by
 have hz:∀ k,((wd.live k).getD ⟨#[]⟩).size<=16384:=λ k=>by
  cases e:wd.live k with
  | none=>exact Nat.zero_le _
  | some t=>exact o.live k t e
 unfold DoO DoK at d
 split at d
 ·obtain ⟨k,m,_,⟨_,h1,_⟩,rfl⟩:=d
  exact ⟨o.len,o.nd,o.pos,upd_ok o.live (λ t e=>by cases e;exact cutT_size h1),o.old⟩
 ·obtain ⟨k,_,_,rfl⟩:=d
  exact ⟨o.len,o.nd,o.pos,upd_ok o.live (λ t e=>by cases e),o.old⟩
 ·obtain ⟨⟨h0,_⟩,h1,h2,rfl⟩:=d
  refine ⟨by simp;omega,?_,?_,o.live,?_⟩
  ·rw [List.map_append,List.nodup_append]
   refine ⟨o.nd,by simp,λ x hx y hy=>?_⟩
   obtain ⟨z,hz,rfl⟩:=List.mem_map.1 hx
   have:y=a.id:=by simpa using hy
   rw [this]
   exact h1 z hz
  ·intro y hy
   rcases List.mem_append.1 hy with hy | hy
   ·exact o.pos y hy
   ·rw [List.mem_singleton] at hy;rw [hy];exact h0
  ·intro y hy
   rcases List.mem_append.1 hy with hy | hy
   ·exact o.old y hy
   ·rw [List.mem_singleton] at hy;rw [hy];exact o.live
 ·obtain ⟨i,T,_,rfl⟩:=d
  have hs:=List.eraseIdx_sublist wd.snaps i
  exact ⟨Nat.le_trans hs.length_le o.len,(hs.map _).nodup o.nd,λ y hy=>o.pos y (hs.subset hy),o.live,λ y hy=>o.old y (hs.subset hy)⟩
 ·obtain ⟨i,T,h,rfl⟩:=d
  exact ⟨o.len,o.nd,o.pos,o.old _ (List.mem_of_getElem? h),o.old⟩
 ·obtain ⟨k,m,_,⟨_,h1⟩,rfl⟩:=d
  exact ⟨o.len,o.nd,o.pos,upd_ok o.live (λ t e=>by cases e;exact wrT_size (hz k) h1),o.old⟩
theorem nodup_at {l:List (Int × Objs)} (nd:(l.map Prod.fst).Nodup) {i j:Nat} {id:Int} {T T':Objs} (h:l[i]?=some (id,T)) (h':l[j]?=some (id,T')):i=j:=by
 have e1:(l.map Prod.fst)[i]?=some id:=by rw [List.getElem?_map,h];rfl
 have e2:(l.map Prod.fst)[j]?=some id:=by rw [List.getElem?_map,h'];rfl
 exact (List.getElem?_inj (List.getElem?_eq_some_iff.1 e1).1 nd).1 (e1.trans e2.symm)
theorem DoO.one {a:AcV} {wd x y:Wd} (o:WdOk wd) (d:DoO a wd x) (d':DoO a wd y):x=y:=by
 unfold DoO at d d'
 generalize a.d.toNat % 8=m at d d'
 unfold DoK at d
 split at d
 ·obtain ⟨k,m,⟨e1,_⟩,⟨e2,_⟩,rfl⟩:=d
  obtain ⟨k',m',⟨e3,_⟩,⟨e4,_⟩,rfl⟩:=d'
  obtain rfl:k=k':=by omega
  obtain rfl:m=m':=by omega
  rfl
 ·obtain ⟨k,⟨e1,_⟩,_,rfl⟩:=d
  obtain ⟨k',⟨e3,_⟩,_,rfl⟩:=d'
  obtain rfl:k=k':=by omega
  rfl
 ·obtain ⟨_,_,_,rfl⟩:=d
  obtain ⟨_,_,_,rfl⟩:=d'
  rfl
 ·obtain ⟨i,T,h,rfl⟩:=d
  obtain ⟨j,T',h',rfl⟩:=d'
  rw [nodup_at o.nd h h']
 ·obtain ⟨i,T,h,rfl⟩:=d
  obtain ⟨j,T',h',rfl⟩:=d'
  obtain rfl:=nodup_at o.nd h h'
  rw [h] at h';injection h' with h';injection h' with _ h';rw [h']
 ·unfold DoK at d'
  split at d' <;> first | contradiction | skip
  obtain ⟨k,m,⟨e1,_⟩,⟨e2,_⟩,rfl⟩:=d
  obtain ⟨k',m',⟨e3,_⟩,⟨e4,_⟩,rfl⟩:=d'
  obtain rfl:k=k':=by omega
  obtain rfl:m=m':=by omega
  rfl
instance aggWl:AggTy 39 66:=⟨λ W b o cs _=>run_loadSub W b o 66 cs _ _ Tryz.underlying39 rfl (by kernel_rfl)⟩
instance aggSe:AggTy 35 64:=⟨λ W b o cs _=>run_loadSub W b o 64 cs _ _ Tryz.underlying35 rfl (by kernel_rfl)⟩
instance aggAct:AggTy 86 5:=⟨λ W b o cs _=>run_loadSub W b o 5 cs _ _ Tryz.underlying86 rfl (by kernel_rfl)⟩
section
variable (H H':Nat->Bool) (X X':Nat->ByteArray) (u v:Value)
@[go_sem] theorem wlC_size:(wlC H X u v).size=66:=by simp [wlC,wlL_len]
@[go_sem] theorem seC_size:(seC H X).size=64:=by simp [seC,seL_len]
instance (priority:=low) subWl (W:World) (b:Nat) [c:CellsIn W b (wlC H X u v)]:SubAt b 0 (wlC H X u v) 66 W :=
 ⟨wlC_size ..,CellsIn.old (cs:=wlC H X u v) c,λ j x e=>by rw [cell_in W b (0+j) (wlC H X u v),Nat.zero_add];simpa using e⟩
instance (priority:=low) subWs (W:World) (b:Nat) [c:CellsIn W b (wlC H X u v)]:SubAt b 0 (seC H X) 64 W :=
 ⟨seC_size ..,CellsIn.old (cs:=wlC H X u v) c,λ j x e=>by
  rw [cell_in W b (0+j) (wlC H X u v),Nat.zero_add]
  have hj:j < 64:=by
   have:=(List.getElem?_eq_some_iff.1 e).1
   simpa [seC,seL_len] using this
  unfold wlC wlL
  rw [List.getElem?_toArray,List.getElem?_append_left (by rw [seL_len];exact hj)]
  simpa [seC] using e⟩
theorem seL_one:∀ x∈seL H X,x.oneCell'=true:=by
 intro x hx
 simp only [seL,hasC,txtC,List.mem_append,List.mem_map] at hx
 rcases hx with ⟨k,_,rfl⟩ | ⟨k,_,rfl⟩ <;> rfl
theorem wlL_one [a:OneV u] [b:OneV v]:∀ x∈wlL H X u v,x.oneCell'=true:=by
 intro x hx
 rcases List.mem_append.1 hx with hx | hx
 ·exact seL_one H X x hx
 ·simp only [List.mem_cons,List.not_mem_nil,or_false] at hx
  rcases hx with rfl | rfl
  ·exact a.h
  ·exact b.h
theorem wl_sto {W:World} {b z:Nat} {t:TypeId} {Y:Array Value} {l:List Value} {r:Array Value} [d:CellsIn W b Y] (hz:(Tryz.prog.info? t).map (·.size)=some z) (hl:l.length=z) (h1:∀ v∈l,v.oneCell'=true) (hle:z<=Y.size) (e:(l++Y.toList.drop z).toArray=r):StoTy t b 0 l.toArray W (W.setRow b r):=by
 obtain ⟨tt,hb⟩:=d.get
 have hs:=run_storeCells_at Tryz.prog b 0 tt l 0 Y W hb (by simpa [hl] using hle) h1
 refine stoTy_of hz hl (hs.trans ?_)
 rw [<-e,<- hl]
 simp
instance (priority:=low) stoWl (W:World) (b:Nat) (a c:Value) [d:CellsIn W b (wlC H' X' a c)] [OneV u] [OneV v]:StoTy 39 b 0 (wlC H X u v) W (W.setRow b (wlC H X u v)) :=
 wl_sto (z:=66) (by kernel_rfl) (wlL_len ..) (wlL_one H X u v) (by rw [wlC_size];omega) (by rw [List.drop_eq_nil_of_le (by simp [wlC,wlL_len]),List.append_nil];rfl)
instance (priority:=low) stoWs (W:World) (b:Nat) (a c:Value) [d:CellsIn W b (wlC H' X' a c)]:StoTy 35 b 0 (seC H X) W (W.setRow b (wlC H X a c)) :=
 wl_sto (z:=64) (by kernel_rfl) (seL_len ..) (seL_one H X) (by rw [wlC_size];omega) (by
  have:(wlC H' X' a c).toList.drop 64=[a,c]:=by
   simp only [wlC,wlL]
   rw [List.drop_append_of_le_length (by rw [seL_len];exact Nat.le_refl _),List.drop_eq_nil_of_le (by rw [seL_len];exact Nat.le_refl _)];rfl
  rw [this];rfl)
end
abbrev noH (_:Nat):Bool:=false
abbrev noX (_:Nat):ByteArray:=⟨#[]⟩
abbrev wl0:Array Value:=wlC noH noX (.slice none 0 0) (.slice none 0 0)
instance bldWl:BldTy 39 wl0:=⟨λ _=>by kernel_rfl⟩
theorem build_wl (w:World) (H:Nat->Bool) (X:Nat->ByteArray):(Instr.build 39 #[(0,.agg (seC H X))]).run Tryz.prog w=.ok (.agg (wlC H X (.slice none 0 0) (.slice none 0 0))) w:=by kernel_rfl
section
variable {ops:Array Oper} {rest:List Oper} {Q:Exit->Act->World->Prop} {a:Act} {w:World} {d:Option Tmp} {ty:TypeId} {pos:String} {aft:Array Edge}
theorem wpList_buildW {x:Operand} {H:Nat->Bool} {X:Nat->ByteArray} (hx:a.eval x=.agg (seC H X)) (h:wpList Tryz.prog ops Q rest (a.put d (.agg (wlC H X (.slice none 0 0) (.slice none 0 0)))) w) :
  wpList Tryz.prog ops Q ({ dst:=d,op:=.build 39 #[(0,x)],type:=ty,pos:=pos,after:=aft,guard:=none }::rest) a w:=by
 refine wpList_value (v:=.agg _) (w':=w) rfl ?_ h
 simp only [execOp,List.map_toArray,List.map_cons,List.map_nil,hx,Sem.run_bind,build_wl w H X,Result.andThen_ok,Sem.run_pure]
structure Stopped (G:Prop):Prop where
 o:G
theorem stopApp {o:Option Tmp} {args:Array Operand} {tt:Array TypeId} (h:Stopped (wpList Tryz.prog ops Q ({ dst:=o,op:=.call { callee:=.builtin .append,args:=args,argTypes:=tt },type:=ty,pos:=pos,after:=aft,guard:=none }::rest) a w)) :
  wpList Tryz.prog ops Q ({ dst:=o,op:=.call { callee:=.builtin .append,args:=args,argTypes:=tt },type:=ty,pos:=pos,after:=aft,guard:=none }::rest) a w:=h.o
theorem wpList_allocW (h:wpList Tryz.prog ops Q rest (a.put d (.pointer (some ⟨w.heap.size,0,none⟩))) (w.alloc (.cells wl0 39))) :
  wpList Tryz.prog ops Q ({ dst:=d,op:=.alloc 39,type:=ty,pos:=pos,after:=aft,guard:=none }::rest) a w:=by
 refine wpList_value (v:=.pointer (some ⟨w.heap.size,0,none⟩)) (w':=w.alloc (.cells wl0 39)) rfl ?_ h
 kernel_rfl
theorem run_bsW (w:World) (H:Nat->Bool) (X:Nat->ByteArray):(Instr.buildSlice 37 1 #[(0,.agg (seC H X))]).run Tryz.prog w=.ok (.slice (some ⟨w.heap.size,0,none⟩) 1 1) (w.alloc (.cells (seC H X) 35)):=by kernel_rfl
theorem wpList_bsW {x:Operand} {H:Nat->Bool} {X:Nat->ByteArray} (hx:a.eval x=.agg (seC H X)) (h:wpList Tryz.prog ops Q rest (a.put d (.slice (some ⟨w.heap.size,0,none⟩) 1 1)) (w.alloc (.cells (seC H X) 35))) :
  wpList Tryz.prog ops Q ({ dst:=d,op:=.buildSlice 37 1 #[(0,x)],type:=ty,pos:=pos,after:=aft,guard:=none }::rest) a w:=by
 refine wpList_value rfl ?_ h
 simp only [execOp,List.map_toArray,List.map_cons,List.map_nil,hx,Sem.run_bind,run_bsW w H X,Result.andThen_ok,Sem.run_pure]
end
instance elTSe:ElT 37 35 64 544:=elT_of Tryz.underlying37 (by kernel_rfl) (by omega)
attribute [go_sem] wlC_has wlC_txt wlC_64 wlC_65
theorem get_of {cs:Array Value} {k:Nat} {v:Value} (e:cs[k]?=some v) (h:k < cs.size):cs[k]=v:=by
 rw [Array.getElem?_eq_getElem h] at e
 exact Option.some.inj e
section
variable (H:Nat->Bool) (X:Nat->ByteArray) (u v:Value)
@[go_sem] theorem wlG_64 (h:64 < (wlC H X u v).size):(wlC H X u v)[64]=u:=get_of (wlC_64 ..) h
@[go_sem] theorem wlG_65 (h:65 < (wlC H X u v).size):(wlC H X u v)[65]=v:=get_of (wlC_65 ..) h
@[go_sem] theorem wlG_has {k:Nat} (h:k < (wlC H X u v).size) (hk:k < 32):(wlC H X u v)[k]=.bool (H k):=get_of (wlC_has _ _ _ _ hk) h
@[go_sem] theorem wlG_txt {k:Nat} (h:32+k < (wlC H X u v).size) (hk:k < 32):(wlC H X u v)[32+k]=.string (X k):=get_of (wlC_txt _ _ _ _ hk) h
end
theorem Turns.new1 {W w:World} {p:SP} (T:Turns W (λ _=>none) p w):New1 p W w:=by
 obtain ⟨m,h',i,x,s⟩:=T
 haveI:OutB W.heap.size (λ _=>none):=⟨λ _ _=>rfl⟩
 exact ⟨gr_of_below (belowMod (Below.refl _ _) m),h',s,i,⟨λ n hn=>x n hn rfl⟩⟩
section
variable {W w:World} {l:List SP} {z n cap:Nat} {ad:Option Addr} {xs:List (List Value)}
theorem Bt.below0 (B:Bt W (λ _=>none) l w):Below W.heap.size W w:=by
 obtain ⟨m,_⟩:=B.t
 haveI:OutB W.heap.size (λ _=>none):=⟨λ _ _=>rfl⟩
 exact belowMod (Below.refl _ _) m
theorem Bt.rds0 (B:Bt W (λ _=>none) l w) (R:RdS z ad n cap xs W):RdS z ad n cap xs w:=by
 obtain ⟨m,_⟩:=B.t
 exact m.rds R λ _ _ _=>rfl
end
@[go_sem] theorem seC_has (H:Nat->Bool) (X:Nat->ByteArray) {k:Nat} (hk:k < 32):(seC H X)[k]?=some (.bool (H k)):=by
 unfold seC
 rw [List.getElem?_toArray,seL_has H X hk]
@[go_sem] theorem seC_txt (H:Nat->Bool) (X:Nat->ByteArray) {k:Nat} (hk:k < 32):(seC H X)[32+k]?=some (.string (X k)):=by
 unfold seC
 rw [List.getElem?_toArray,seL_txt H X hk]
@[go_sem] theorem seG_has (H:Nat->Bool) (X:Nat->ByteArray) {k:Nat} (h:k < (seC H X).size) (hk:k < 32):(seC H X)[k]=.bool (H k):=get_of (seC_has _ _ hk) h
@[go_sem] theorem seG_txt (H:Nat->Bool) (X:Nat->ByteArray) {k:Nat} (h:32+k < (seC H X).size) (hk:k < 32):(seC H X)[32+k]=.string (X k):=get_of (seC_txt _ _ hk) h
def wlW (wd:Wd) (ia:Option Addr) (icap:Nat) (sa:Option Addr) (scap:Nat):Array Value:=wlC (hasO wd.live) (txtO wd.live) (.slice ia wd.snaps.length icap) (.slice sa wd.snaps.length scap)
structure ActsIn (ad:Option Addr) (n cap:Nat) (L:List AcV) (W:World) (h:Hl):Prop where
 rd:RdS 5 ad n cap (L.map λ a=>a.cs.toList) W
 out:∀ a,ad=some a->0 < n->h a.block=none
section
variable {W w:World} {h:Hl} {l:List SP} {ad:Option Addr} {n cap:Nat} {L:List AcV}
theorem ActsIn.bt (A:ActsIn ad n cap L W h) (B:Bt W h l w):RdS 5 ad n cap (L.map λ a=>a.cs.toList) w:=by
 obtain ⟨m,_⟩:=B.t
 exact m.rds A.rd A.out
def TqA (A:World->Hl->Prop) (f:FuncId) (args:Array Value) (p:SP) (R:Value->SP->Prop):Prop:=∀ W h,Has W h->p h->A W h->Calls Tryz.prog f args W λ e w'=>∃ v q,e=.returned v/\R v q/\Turns W h q w'
theorem TqA.of {A:World->Hl->Prop} {f:FuncId} {args:Array Value} {p:SP} {R:Value->SP->Prop} (k:∀ W h,Bt W h [p] W->A W h->Calls Tryz.prog f args W λ e w'=>∃ v q,e=.returned v/\R v q/\Turns W h q w'):TqA A f args p R:=λ W h i s a=>k W h (Bt.start s) a
theorem Bt.callA {f:FuncId} {args:Array Value} {p:SP} {R:Value->SP->Prop} (t:TqA (ActsIn ad n cap L) f args p R) {k:SP->List SP} (A:ActsIn ad n cap L W h) [B:Bt W h l w] [m:Foc l p k]:Calls Tryz.prog f args w λ e w'=>∃ v q,e=.returned v/\R v q/\Bt W h (k q) w':=by
 have Aw:=A.bt B
 obtain ⟨m',h1,j,x,s⟩:=B.t
 obtain ⟨i,e,hk⟩:=m.e
 obtain ⟨h0,a,b,c⟩:=s.focus e
 refine (t w h0 (j.sub b) a ⟨Aw,λ ad' hd hn=>b.none (x _ (A.rd.lt ad' hd hn) (A.out ad' hd hn))⟩).mono λ e' w' ⟨v,q,ev,r,T⟩=>⟨v,q,ev,r,?_⟩
 rw [hk]
 exact ⟨Turns.after m' x ((T.frame j b).mono λ h' ⟨h1,q1,q2,q3⟩=>c q h1 h' q1 q2 q3)⟩
end
end Go.Proofs.YtlfjdjndhcmliaaGreatDoor
