/- WholeGeoms, part 6. -/
import Derived.Test.YtlfjdjndhcmliaaGreatDoorA05
import Derived.Test.YtlfjdjndhcmliaaGreatDoorA03
import Derived.Laws.CopyRow
import Derived.Test.YtlfjdjndhcmliaaGreatDoorA02
import Derived.Test.YtlfjdjndhcmliaaGreatDoorA04
set_option maxRecDepth 100000
set_option maxHeartbeats 4000000
set_option linter.all false
namespace Go.Proofs.YtlfjdjndhcmliaaGreatDoor
open Go.RowKit Go.Sort
theorem run_callGo {P:Program} {f:FuncId} (hp:goFn P f=true) (args:Array Value) (w:World):(callFunc f args).run P w=.ok (.enter f args) w:=by
 unfold goFn at hp
 split at hp
 ·rename_i fn hf
  simp only [Bool.and_eq_true,Bool.not_eq_true',Option.isSome_iff_exists] at hp
  obtain ⟨h1,c,h2⟩:=hp
  have h1 : ¬ fn.name = "runtime.NumGoroutine" := by simpa using h1
  simp [callFunc,hf,h1,h2]
 ·cases hp
def ixV (n k:Nat):Value:=.int .i64 (if k < n then (k:Int) else -1)
def ixI {α:Type} (p:α->Bool) (l:List α):Int:=if l.any p then (l.findIdx p:Nat) else -1
theorem ixI_at {α:Type} {p:α->Bool} {l:List α} {k:Nat} {t:α} (h:∀ (j:Nat) (x:α),j < k->l[j]?=some x->p x=false) (ht:l[k]?=some t) (hp:p t=true):ixI p l=k:=by
 unfold ixI
 rw [if_pos (List.any_eq_true.2 ⟨t,List.mem_of_getElem? ht,hp⟩)]
 obtain ⟨hk,e⟩:=List.getElem?_eq_some_iff.1 ht
 congr 1
 rw [List.findIdx_eq hk]
 exact ⟨by rw [e];exact hp,λ j hj=>h j _ hj (List.getElem?_eq_getElem (by omega))⟩
theorem ixI_none {α:Type} {p:α->Bool} {l:List α} (h:∀ (j:Nat) (x:α),l[j]?=some x->p x=false):ixI p l=-1:=by
 unfold ixI
 rw [if_neg]
 intro e
 obtain ⟨x,hx,hp⟩:=List.any_eq_true.1 e
 obtain ⟨j,hj⟩:=List.getElem?_of_mem hx
 rw [h j x hj] at hp
 cases hp
theorem ixI_ge {α:Type} (p:α->Bool) (l:List α):decide (0<=ixI p l)=l.any p:=by
 unfold ixI
 split
 ·rename_i h;rw [h];simp
 ·rename_i h
  simp only [Bool.not_eq_true] at h
  rw [h];rfl
theorem ixV_ixI {α:Type} [Inhabited α] {p:α->Bool} {l:List α} {n k:Nat} (hn:l.length=n) (hk:k<=n) (h1:∀ j,j < k->p l[j]! = false) (h2:k < n->p l[k]! = true):ixV n k=.int .i64 (ixI p l):=by
 unfold ixV
 split
 ·rename_i h
  rw [ixI_at (p:=p) (l:=l) (k:=k) (t:=l[k]!) (λ j x hj hx=>by
   have:=h1 j hj
   rw [List.getElem!_eq_getElem?_getD,hx] at this
   exact this) (by rw [List.getElem!_eq_getElem?_getD,List.getElem?_eq_getElem (by omega)];rfl) (h2 h)]
 ·obtain rfl:n=k:=by omega
  rw [ixI_none λ j x hx=>?_]
  have hj:=(List.getElem?_eq_some_iff.1 hx).1
  have:=h1 j (by omega)
  rw [List.getElem!_eq_getElem?_getD,hx] at this
  exact this
theorem ixfS (ad:Option Addr) (n cap:Nat) (xs:List (List Value)) (W:World) (hn:n<=1000000) (f:FuncId) (q:goFn Tryz.prog f=true) (cp:Array Value) (p:Nat->Bool) (I:Nat->World->Prop) (h0:I 0 W)
  (hr:∀ k w,I k w->RdS 1 ad n cap xs w) (hf:∀ k v w,xs[k]?=some [v]->I k w->Calls Tryz.prog f (#[v]++cp) w λ e w'=>e=.returned (.bool (p k))/\I (k+1) w') (h1:∀ x∈xs,x.length=1) :
  Calls Tryz.prog 362 #[.slice ad n cap,.func (.func f) #[] cp] W λ e w'=>∃ k,e=.returned (ixV n k)/\k<=n/\(∀ j,j < k->p j=false)/\(k < n->p k=true)/\I (if k < n then k+1 else n) w':=by
 have hrun:=λ args w=>run_callGo (P:=Tryz.prog) q args w
 go_enter Tryz.func362,Tryz.ntmps362
 go_wp2_with fail
 go_loopw [8] (λ i wr=>∃ k:Nat,k<=n/\i=.int .i64 k/\(∀ j,j < k->p j=false)/\I k wr)
  (λ i _=>n - (intOf i).toNat)
 case atStart=>exact ⟨0,Nat.zero_le _,rfl,λ j hj=>by omega,h0⟩
 case round =>
  obtain ⟨k,hk,rfl,hall,hi⟩:=hrel
  have R:=hr k _ hi
  by_cases hlt:k < n
  ·obtain ⟨x,hx⟩:∃ x,xs[k]?=some x:=⟨_,List.getElem?_eq_getElem (by rw [R.len];exact hlt)⟩
   obtain ⟨v,rfl⟩:=List.length_eq_one_iff.1 (h1 x (List.mem_of_getElem? hx))
   obtain ⟨b,o,rfl,hb,hc⟩:=R.cells k [v] hx
   have cv:=hc 0 _ rfl
   rw [Nat.mul_one,Nat.add_zero] at cv
   have c:=hf k v _ hx hi
   clear hf hr hc hx
   have Hall:=Lib.hid hall
   clear hall
   cases hp:p k
   all_goals
    rw [hp] at c
    have Hp:=Lib.hid hp
    clear hp
    go_wp2_with fail
    refine c.mono ?_
    rintro _ w' ⟨rfl,hj⟩
    dsimp only
    go_wp2_with fail
   ·exact ⟨⟨k+1,hlt,by go_num,λ j hj=>by rcases Nat.lt_succ_iff_lt_or_eq.1 hj with h | rfl;exact Hall.out j h;exact Hp.out,hj⟩,by simp [intOf];omega⟩
   ·go_ret
    exact ⟨k,by simp [ixV,hlt],hk,Hall.out,λ _=>Hp.out,by simpa [hlt] using hj⟩
  ·obtain rfl:n=k:=by omega
   clear hf hr
   have Hall:=Lib.hid hall
   clear hall
   go_wp2_with fail
   go_ret
   exact ⟨n,by simp [ixV],Nat.le_refl _,Hall.out,λ h=>absurd h (Nat.lt_irrefl _),by simpa using hi⟩
theorem ixpS (ad:Option Addr) (n cap:Nat) (xs:List (List Value)) (W:World) [r:RdS 1 ad n cap xs W] (hn:n<=1000000) (f:FuncId) (q:goFn Tryz.prog f=true) (cp:Array Value) (p:List Value->Bool)
  (hf:∀ v,[v]∈xs->∀ g,Calls Tryz.prog f (#[v]++cp) (gr W g) (Ret (.bool (p [v])) (gr W g))) (h1:∀ x∈xs,x.length=1) :
  Fn 362 #[.slice ad n cap,.func (.func f) #[] cp] W (.int .i64 (ixI p xs)):=by
 refine ⟨(ixfS ad n cap xs W hn f q cp (λ k=>p xs[k]!) (λ _ w=>∃ g,w=gr W g) (ex_gr W) (λ k w ⟨g,e⟩=>e ▸ ii) (λ k x w hx ⟨g,e⟩=>?_) h1).mono ?_⟩
 ·subst e
  refine (hf _ (List.mem_of_getElem? hx) g).mono λ e w' ⟨a,b⟩=>⟨?_,?_⟩
  ·rw [a];try simp [List.getElem!_eq_getElem?_getD,hx]
  ·obtain ⟨g',rfl⟩:=gr_of_below b
   exact ⟨_,gr_gr ..⟩
 ·rintro _ w' ⟨k,rfl,hk,a,b,g,rfl⟩
  exact ⟨by rw [ixV_ixI r.len hk a b],below_gr _ _⟩
set_option maxRecDepth 512 in
theorem cfS (ad:Option Addr) (n cap:Nat) (xs:List (List Value)) (W:World) [r:RdS 1 ad n cap xs W] (hn:n<=1000000) (f:FuncId) (q:goFn Tryz.prog f=true) (cp:Array Value) (p:List Value->Bool)
  (hf:∀ v,[v]∈xs->∀ g,Calls Tryz.prog f (#[v]++cp) (gr W g) (Ret (.bool (p [v])) (gr W g))) (h1:∀ x∈xs,x.length=1) :
  Fn 353 #[.slice ad n cap,.func (.func f) #[] cp] W (.bool (xs.any p)):=by
 refine ⟨?_⟩
 have e:=Lib.hid (ixI_ge p xs)
 haveI:=ixpS ad n cap xs W hn f q cp p hf h1
 clear hf
 generalize ixI p xs=i at *
 generalize xs.any p=b at *
 go_enter Tryz.func353,Tryz.ntmps353
 go_wp2_with (with_reducible refine Fn.go λ g=>?_)
 go_ret
 exact Ret.mk (congrArg Value.bool (by rw [<-e.out])) grown
theorem ixfI (ad:Option Addr) (n cap:Nat) (xs:List (List Value)) (W:World) (hn:n<=1000000) (f:FuncId) (q:goFn Tryz.prog f=true) (cp:Array Value) (p:Nat->Bool) (I:Nat->World->Prop) (h0:I 0 W)
  (hr:∀ k w,I k w->RdS 1 ad n cap xs w) (hf:∀ k v w,xs[k]?=some [v]->I k w->Calls Tryz.prog f (#[v]++cp) w λ e w'=>e=.returned (.bool (p k))/\I (k+1) w') (h1:∀ x∈xs,x.length=1) :
  Calls Tryz.prog 212 #[.slice ad n cap,.func (.func f) #[] cp] W λ e w'=>∃ k,e=.returned (ixV n k)/\k<=n/\(∀ j,j < k->p j=false)/\(k < n->p k=true)/\I (if k < n then k+1 else n) w':=by
 have hrun:=λ args w=>run_callGo (P:=Tryz.prog) q args w
 go_enter Tryz.func212,Tryz.ntmps212
 go_wp2_with fail
 go_loopw [8] (λ i wr=>∃ k:Nat,k<=n/\i=.int .i64 k/\(∀ j,j < k->p j=false)/\I k wr)
  (λ i _=>n - (intOf i).toNat)
 case atStart=>exact ⟨0,Nat.zero_le _,rfl,λ j hj=>by omega,h0⟩
 case round =>
  obtain ⟨k,hk,rfl,hall,hi⟩:=hrel
  have R:=hr k _ hi
  by_cases hlt:k < n
  ·obtain ⟨x,hx⟩:∃ x,xs[k]?=some x:=⟨_,List.getElem?_eq_getElem (by rw [R.len];exact hlt)⟩
   obtain ⟨v,rfl⟩:=List.length_eq_one_iff.1 (h1 x (List.mem_of_getElem? hx))
   obtain ⟨b,o,rfl,hb,hc⟩:=R.cells k [v] hx
   have cv:=hc 0 _ rfl
   rw [Nat.mul_one,Nat.add_zero] at cv
   have c:=hf k v _ hx hi
   clear hf hr hc hx
   have Hall:=Lib.hid hall
   clear hall
   cases hp:p k
   all_goals
    rw [hp] at c
    have Hp:=Lib.hid hp
    clear hp
    go_wp2_with fail
    refine c.mono ?_
    rintro _ w' ⟨rfl,hj⟩
    dsimp only
    go_wp2_with fail
   ·exact ⟨⟨k+1,hlt,by go_num,λ j hj=>by rcases Nat.lt_succ_iff_lt_or_eq.1 hj with h | rfl;exact Hall.out j h;exact Hp.out,hj⟩,by simp [intOf];omega⟩
   ·go_ret
    exact ⟨k,by simp [ixV,hlt],hk,Hall.out,λ _=>Hp.out,by simpa [hlt] using hj⟩
  ·obtain rfl:n=k:=by omega
   clear hf hr
   have Hall:=Lib.hid hall
   clear hall
   go_wp2_with fail
   go_ret
   exact ⟨n,by simp [ixV],Nat.le_refl _,Hall.out,λ h=>absurd h (Nat.lt_irrefl _),by simpa using hi⟩
theorem ixpI (ad:Option Addr) (n cap:Nat) (xs:List (List Value)) (W:World) [r:RdS 1 ad n cap xs W] (hn:n<=1000000) (f:FuncId) (q:goFn Tryz.prog f=true) (cp:Array Value) (p:List Value->Bool)
  (hf:∀ v,[v]∈xs->∀ g,Calls Tryz.prog f (#[v]++cp) (gr W g) (Ret (.bool (p [v])) (gr W g))) (h1:∀ x∈xs,x.length=1) :
  Fn 212 #[.slice ad n cap,.func (.func f) #[] cp] W (.int .i64 (ixI p xs)):=by
 refine ⟨(ixfI ad n cap xs W hn f q cp (λ k=>p xs[k]!) (λ _ w=>∃ g,w=gr W g) (ex_gr W) (λ k w ⟨g,e⟩=>e ▸ ii) (λ k x w hx ⟨g,e⟩=>?_) h1).mono ?_⟩
 ·subst e
  refine (hf _ (List.mem_of_getElem? hx) g).mono λ e w' ⟨a,b⟩=>⟨?_,?_⟩
  ·rw [a];try simp [List.getElem!_eq_getElem?_getD,hx]
  ·obtain ⟨g',rfl⟩:=gr_of_below b
   exact ⟨_,gr_gr ..⟩
 ·rintro _ w' ⟨k,rfl,hk,a,b,g,rfl⟩
  exact ⟨by rw [ixV_ixI r.len hk a b],below_gr _ _⟩
set_option maxRecDepth 512 in
theorem cfI (ad:Option Addr) (n cap:Nat) (xs:List (List Value)) (W:World) [r:RdS 1 ad n cap xs W] (hn:n<=1000000) (f:FuncId) (q:goFn Tryz.prog f=true) (cp:Array Value) (p:List Value->Bool)
  (hf:∀ v,[v]∈xs->∀ g,Calls Tryz.prog f (#[v]++cp) (gr W g) (Ret (.bool (p [v])) (gr W g))) (h1:∀ x∈xs,x.length=1) :
  Fn 147 #[.slice ad n cap,.func (.func f) #[] cp] W (.bool (xs.any p)):=by
 refine ⟨?_⟩
 have e:=Lib.hid (ixI_ge p xs)
 haveI:=ixpI ad n cap xs W hn f q cp p hf h1
 clear hf
 generalize ixI p xs=i at *
 generalize xs.any p=b at *
 go_enter Tryz.func147,Tryz.ntmps147
 go_wp2_with (with_reducible refine Fn.go λ g=>?_)
 go_ret
 exact Ret.mk (congrArg Value.bool (by rw [<-e.out])) grown
theorem ixfD (ad:Option Addr) (n cap:Nat) (xs:List (List Value)) (W:World) (hn:n<=1000000) (f:FuncId) (q:goFn Tryz.prog f=true) (cp:Array Value) (p:Nat->Bool) (I:Nat->World->Prop) (h0:I 0 W)
  (hr:∀ k w,I k w->RdS 1 ad n cap xs w) (hf:∀ k v w,xs[k]?=some [v]->I k w->Calls Tryz.prog f (#[v]++cp) w λ e w'=>e=.returned (.bool (p k))/\I (k+1) w') (h1:∀ x∈xs,x.length=1) :
  Calls Tryz.prog 176 #[.slice ad n cap,.func (.func f) #[] cp] W λ e w'=>∃ k,e=.returned (ixV n k)/\k<=n/\(∀ j,j < k->p j=false)/\(k < n->p k=true)/\I (if k < n then k+1 else n) w':=by
 have hrun:=λ args w=>run_callGo (P:=Tryz.prog) q args w
 go_enter Tryz.func176,Tryz.ntmps176
 go_wp2_with fail
 go_loopw [8] (λ i wr=>∃ k:Nat,k<=n/\i=.int .i64 k/\(∀ j,j < k->p j=false)/\I k wr)
  (λ i _=>n - (intOf i).toNat)
 case atStart=>exact ⟨0,Nat.zero_le _,rfl,λ j hj=>by omega,h0⟩
 case round =>
  obtain ⟨k,hk,rfl,hall,hi⟩:=hrel
  have R:=hr k _ hi
  by_cases hlt:k < n
  ·obtain ⟨x,hx⟩:∃ x,xs[k]?=some x:=⟨_,List.getElem?_eq_getElem (by rw [R.len];exact hlt)⟩
   obtain ⟨v,rfl⟩:=List.length_eq_one_iff.1 (h1 x (List.mem_of_getElem? hx))
   obtain ⟨b,o,rfl,hb,hc⟩:=R.cells k [v] hx
   have cv:=hc 0 _ rfl
   rw [Nat.mul_one,Nat.add_zero] at cv
   have c:=hf k v _ hx hi
   clear hf hr hc hx
   have Hall:=Lib.hid hall
   clear hall
   cases hp:p k
   all_goals
    rw [hp] at c
    have Hp:=Lib.hid hp
    clear hp
    go_wp2_with fail
    refine c.mono ?_
    rintro _ w' ⟨rfl,hj⟩
    dsimp only
    go_wp2_with fail
   ·exact ⟨⟨k+1,hlt,by go_num,λ j hj=>by rcases Nat.lt_succ_iff_lt_or_eq.1 hj with h | rfl;exact Hall.out j h;exact Hp.out,hj⟩,by simp [intOf];omega⟩
   ·go_ret
    exact ⟨k,by simp [ixV,hlt],hk,Hall.out,λ _=>Hp.out,by simpa [hlt] using hj⟩
  ·obtain rfl:n=k:=by omega
   clear hf hr
   have Hall:=Lib.hid hall
   clear hall
   go_wp2_with fail
   go_ret
   exact ⟨n,by simp [ixV],Nat.le_refl _,Hall.out,λ h=>absurd h (Nat.lt_irrefl _),by simpa using hi⟩
theorem ixpD (ad:Option Addr) (n cap:Nat) (xs:List (List Value)) (W:World) [r:RdS 1 ad n cap xs W] (hn:n<=1000000) (f:FuncId) (q:goFn Tryz.prog f=true) (cp:Array Value) (p:List Value->Bool)
  (hf:∀ v,[v]∈xs->∀ g,Calls Tryz.prog f (#[v]++cp) (gr W g) (Ret (.bool (p [v])) (gr W g))) (h1:∀ x∈xs,x.length=1) :
  Fn 176 #[.slice ad n cap,.func (.func f) #[] cp] W (.int .i64 (ixI p xs)):=by
 refine ⟨(ixfD ad n cap xs W hn f q cp (λ k=>p xs[k]!) (λ _ w=>∃ g,w=gr W g) (ex_gr W) (λ k w ⟨g,e⟩=>e ▸ ii) (λ k x w hx ⟨g,e⟩=>?_) h1).mono ?_⟩
 ·subst e
  refine (hf _ (List.mem_of_getElem? hx) g).mono λ e w' ⟨a,b⟩=>⟨?_,?_⟩
  ·rw [a];try simp [List.getElem!_eq_getElem?_getD,hx]
  ·obtain ⟨g',rfl⟩:=gr_of_below b
   exact ⟨_,gr_gr ..⟩
 ·rintro _ w' ⟨k,rfl,hk,a,b,g,rfl⟩
  exact ⟨by rw [ixV_ixI r.len hk a b],below_gr _ _⟩
set_option maxRecDepth 512 in
theorem cfD (ad:Option Addr) (n cap:Nat) (xs:List (List Value)) (W:World) [r:RdS 1 ad n cap xs W] (hn:n<=1000000) (f:FuncId) (q:goFn Tryz.prog f=true) (cp:Array Value) (p:List Value->Bool)
  (hf:∀ v,[v]∈xs->∀ g,Calls Tryz.prog f (#[v]++cp) (gr W g) (Ret (.bool (p [v])) (gr W g))) (h1:∀ x∈xs,x.length=1) :
  Fn 124 #[.slice ad n cap,.func (.func f) #[] cp] W (.bool (xs.any p)):=by
 refine ⟨?_⟩
 have e:=Lib.hid (ixI_ge p xs)
 haveI:=ixpD ad n cap xs W hn f q cp p hf h1
 clear hf
 generalize ixI p xs=i at *
 generalize xs.any p=b at *
 go_enter Tryz.func124,Tryz.ntmps124
 go_wp2_with (with_reducible refine Fn.go λ g=>?_)
 go_ret
 exact Ret.mk (congrArg Value.bool (by rw [<-e.out])) grown
instance aggR:AggTy 92 2:=⟨λ W b o cs _=>run_loadSub W b o 2 cs _ _ Tryz.underlying92 rfl (by kernel_rfl)⟩
theorem ixfR (ad:Option Addr) (n cap:Nat) (xs:List (List Value)) (W:World) (hn:n<=1000000) (f:FuncId) (q:goFn Tryz.prog f=true) (cp:Array Value) (p:Nat->Bool) (I:Nat->World->Prop) (h0:I 0 W)
  (hr:∀ k w,I k w->RdS 2 ad n cap xs w) (hf:∀ k x w,xs[k]?=some x->I k w->Calls Tryz.prog f (#[.agg x.toArray]++cp) w λ e w'=>e=.returned (.bool (p k))/\I (k+1) w') (h1:∀ x∈xs,x.length=2) :
  Calls Tryz.prog 213 #[.slice ad n cap,.func (.func f) #[] cp] W λ e w'=>∃ k,e=.returned (ixV n k)/\k<=n/\(∀ j,j < k->p j=false)/\(k < n->p k=true)/\I (if k < n then k+1 else n) w':=by
 have hrun:=λ args w=>run_callGo (P:=Tryz.prog) q args w
 go_enter Tryz.func213,Tryz.ntmps213
 go_wp2_with fail
 go_loopw [8] (λ i wr=>∃ k:Nat,k<=n/\i=.int .i64 k/\(∀ j,j < k->p j=false)/\I k wr)
  (λ i _=>n - (intOf i).toNat)
 case atStart=>exact ⟨0,Nat.zero_le _,rfl,λ j hj=>by omega,h0⟩
 case round =>
  obtain ⟨k,hk,rfl,hall,hi⟩:=hrel
  have R:=hr k _ hi
  by_cases hlt:k < n
  ·obtain ⟨x,hx⟩:∃ x,xs[k]?=some x:=⟨_,List.getElem?_eq_getElem (by rw [R.len];exact hlt)⟩
   have hxz:=h1 x (List.mem_of_getElem? hx)
   obtain ⟨b,o,rfl,hb,hc⟩:=R.cells k x hx
   haveI:SubAt b (o+k*2) x.toArray 2 wr:=⟨by simpa using hxz,hb,λ j v e=>hc j v (by simpa using e)⟩
   have c:=hf k x _ hx hi
   clear hf hr hc hx
   have Hall:=Lib.hid hall
   clear hall
   cases hp:p k
   all_goals
    rw [hp] at c
    have Hp:=Lib.hid hp
    clear hp
    go_wp2_with ((with_reducible apply wpList_load);(·exact rfl);(·exact ii))
    refine c.mono ?_
    rintro _ w' ⟨rfl,hj⟩
    dsimp only
    go_wp2_with fail
   ·exact ⟨⟨k+1,hlt,by go_num,λ j hj=>by rcases Nat.lt_succ_iff_lt_or_eq.1 hj with h | rfl;exact Hall.out j h;exact Hp.out,hj⟩,by simp [intOf];omega⟩
   ·go_ret
    exact ⟨k,by simp [ixV,hlt],hk,Hall.out,λ _=>Hp.out,by simpa [hlt] using hj⟩
  ·obtain rfl:n=k:=by omega
   clear hf hr
   have Hall:=Lib.hid hall
   clear hall
   go_wp2_with fail
   go_ret
   exact ⟨n,by simp [ixV],Nat.le_refl _,Hall.out,λ h=>absurd h (Nat.lt_irrefl _),by simpa using hi⟩
theorem ixpR (ad:Option Addr) (n cap:Nat) (xs:List (List Value)) (W:World) [r:RdS 2 ad n cap xs W] (hn:n<=1000000) (f:FuncId) (q:goFn Tryz.prog f=true) (cp:Array Value) (p:List Value->Bool)
  (hf:∀ x∈xs,∀ g,Calls Tryz.prog f (#[.agg x.toArray]++cp) (gr W g) (Ret (.bool (p x)) (gr W g))) (h1:∀ x∈xs,x.length=2) :
  Fn 213 #[.slice ad n cap,.func (.func f) #[] cp] W (.int .i64 (ixI p xs)):=by
 refine ⟨(ixfR ad n cap xs W hn f q cp (λ k=>p xs[k]!) (λ _ w=>∃ g,w=gr W g) (ex_gr W) (λ k w ⟨g,e⟩=>e ▸ ii) (λ k x w hx ⟨g,e⟩=>?_) h1).mono ?_⟩
 ·subst e
  refine (hf _ (List.mem_of_getElem? hx) g).mono λ e w' ⟨a,b⟩=>⟨?_,?_⟩
  ·rw [a];try simp [List.getElem!_eq_getElem?_getD,hx]
  ·obtain ⟨g',rfl⟩:=gr_of_below b
   exact ⟨_,gr_gr ..⟩
 ·rintro _ w' ⟨k,rfl,hk,a,b,g,rfl⟩
  exact ⟨by rw [ixV_ixI r.len hk a b],below_gr _ _⟩
set_option maxRecDepth 512 in
theorem cfR (ad:Option Addr) (n cap:Nat) (xs:List (List Value)) (W:World) [r:RdS 2 ad n cap xs W] (hn:n<=1000000) (f:FuncId) (q:goFn Tryz.prog f=true) (cp:Array Value) (p:List Value->Bool)
  (hf:∀ x∈xs,∀ g,Calls Tryz.prog f (#[.agg x.toArray]++cp) (gr W g) (Ret (.bool (p x)) (gr W g))) (h1:∀ x∈xs,x.length=2) :
  Fn 150 #[.slice ad n cap,.func (.func f) #[] cp] W (.bool (xs.any p)):=by
 refine ⟨?_⟩
 have e:=Lib.hid (ixI_ge p xs)
 haveI:=ixpR ad n cap xs W hn f q cp p hf h1
 clear hf
 generalize ixI p xs=i at *
 generalize xs.any p=b at *
 go_enter Tryz.func150,Tryz.ntmps150
 go_wp2_with (with_reducible refine Fn.go λ g=>?_)
 go_ret
 exact Ret.mk (congrArg Value.bool (by rw [<-e.out])) grown
instance aggN:AggTy 125 15:=⟨λ W b o cs _=>run_loadSub W b o 15 cs _ _ Tryz.underlying125 rfl (by kernel_rfl)⟩
theorem ixfN (ad:Option Addr) (n cap:Nat) (xs:List (List Value)) (W:World) (hn:n<=1000000) (f:FuncId) (q:goFn Tryz.prog f=true) (cp:Array Value) (p:Nat->Bool) (I:Nat->World->Prop) (h0:I 0 W)
  (hr:∀ k w,I k w->RdS 15 ad n cap xs w) (hf:∀ k x w,xs[k]?=some x->I k w->Calls Tryz.prog f (#[.agg x.toArray]++cp) w λ e w'=>e=.returned (.bool (p k))/\I (k+1) w') (h1:∀ x∈xs,x.length=15) :
  Calls Tryz.prog 166 #[.slice ad n cap,.func (.func f) #[] cp] W λ e w'=>∃ k,e=.returned (ixV n k)/\k<=n/\(∀ j,j < k->p j=false)/\(k < n->p k=true)/\I (if k < n then k+1 else n) w':=by
 have hrun:=λ args w=>run_callGo (P:=Tryz.prog) q args w
 go_enter Tryz.func166,Tryz.ntmps166
 go_wp2_with fail
 go_loopw [8] (λ i wr=>∃ k:Nat,k<=n/\i=.int .i64 k/\(∀ j,j < k->p j=false)/\I k wr)
  (λ i _=>n - (intOf i).toNat)
 case atStart=>exact ⟨0,Nat.zero_le _,rfl,λ j hj=>by omega,h0⟩
 case round =>
  obtain ⟨k,hk,rfl,hall,hi⟩:=hrel
  have R:=hr k _ hi
  by_cases hlt:k < n
  ·obtain ⟨x,hx⟩:∃ x,xs[k]?=some x:=⟨_,List.getElem?_eq_getElem (by rw [R.len];exact hlt)⟩
   have hxz:=h1 x (List.mem_of_getElem? hx)
   obtain ⟨b,o,rfl,hb,hc⟩:=R.cells k x hx
   haveI:SubAt b (o+k*15) x.toArray 15 wr:=⟨by simpa using hxz,hb,λ j v e=>hc j v (by simpa using e)⟩
   have c:=hf k x _ hx hi
   clear hf hr hc hx
   have Hall:=Lib.hid hall
   clear hall
   cases hp:p k
   all_goals
    rw [hp] at c
    have Hp:=Lib.hid hp
    clear hp
    go_wp2_with ((with_reducible apply wpList_load);(·exact rfl);(·exact ii))
    refine c.mono ?_
    rintro _ w' ⟨rfl,hj⟩
    dsimp only
    go_wp2_with fail
   ·exact ⟨⟨k+1,hlt,by go_num,λ j hj=>by rcases Nat.lt_succ_iff_lt_or_eq.1 hj with h | rfl;exact Hall.out j h;exact Hp.out,hj⟩,by simp [intOf];omega⟩
   ·go_ret
    exact ⟨k,by simp [ixV,hlt],hk,Hall.out,λ _=>Hp.out,by simpa [hlt] using hj⟩
  ·obtain rfl:n=k:=by omega
   clear hf hr
   have Hall:=Lib.hid hall
   clear hall
   go_wp2_with fail
   go_ret
   exact ⟨n,by simp [ixV],Nat.le_refl _,Hall.out,λ h=>absurd h (Nat.lt_irrefl _),by simpa using hi⟩
theorem ixpN (ad:Option Addr) (n cap:Nat) (xs:List (List Value)) (W:World) [r:RdS 15 ad n cap xs W] (hn:n<=1000000) (f:FuncId) (q:goFn Tryz.prog f=true) (cp:Array Value) (p:List Value->Bool)
  (hf:∀ x∈xs,∀ g,Calls Tryz.prog f (#[.agg x.toArray]++cp) (gr W g) (Ret (.bool (p x)) (gr W g))) (h1:∀ x∈xs,x.length=15) :
  Fn 166 #[.slice ad n cap,.func (.func f) #[] cp] W (.int .i64 (ixI p xs)):=by
 refine ⟨(ixfN ad n cap xs W hn f q cp (λ k=>p xs[k]!) (λ _ w=>∃ g,w=gr W g) (ex_gr W) (λ k w ⟨g,e⟩=>e ▸ ii) (λ k x w hx ⟨g,e⟩=>?_) h1).mono ?_⟩
 ·subst e
  refine (hf _ (List.mem_of_getElem? hx) g).mono λ e w' ⟨a,b⟩=>⟨?_,?_⟩
  ·rw [a];try simp [List.getElem!_eq_getElem?_getD,hx]
  ·obtain ⟨g',rfl⟩:=gr_of_below b
   exact ⟨_,gr_gr ..⟩
 ·rintro _ w' ⟨k,rfl,hk,a,b,g,rfl⟩
  exact ⟨by rw [ixV_ixI r.len hk a b],below_gr _ _⟩
set_option maxRecDepth 512 in
theorem cfN (ad:Option Addr) (n cap:Nat) (xs:List (List Value)) (W:World) [r:RdS 15 ad n cap xs W] (hn:n<=1000000) (f:FuncId) (q:goFn Tryz.prog f=true) (cp:Array Value) (p:List Value->Bool)
  (hf:∀ x∈xs,∀ g,Calls Tryz.prog f (#[.agg x.toArray]++cp) (gr W g) (Ret (.bool (p x)) (gr W g))) (h1:∀ x∈xs,x.length=15) :
  Fn 210 #[.slice ad n cap,.func (.func f) #[] cp] W (.bool (xs.any p)):=by
 refine ⟨?_⟩
 have e:=Lib.hid (ixI_ge p xs)
 haveI:=ixpN ad n cap xs W hn f q cp p hf h1
 clear hf
 generalize ixI p xs=i at *
 generalize xs.any p=b at *
 go_enter Tryz.func210,Tryz.ntmps210
 go_wp2_with (with_reducible refine Fn.go λ g=>?_)
 go_ret
 exact Ret.mk (congrArg Value.bool (by rw [<-e.out])) grown
theorem ixfP (ad:Option Addr) (n cap:Nat) (xs:List (List Value)) (W:World) (hn:n<=1000000) (f:FuncId) (q:goFn Tryz.prog f=true) (cp:Array Value) (p:Nat->Bool) (I:Nat->World->Prop) (h0:I 0 W)
  (hr:∀ k w,I k w->RdS 12 ad n cap xs w) (hf:∀ k x w,xs[k]?=some x->I k w->Calls Tryz.prog f (#[.agg x.toArray]++cp) w λ e w'=>e=.returned (.bool (p k))/\I (k+1) w') (h1:∀ x∈xs,x.length=12) :
  Calls Tryz.prog 222 #[.slice ad n cap,.func (.func f) #[] cp] W λ e w'=>∃ k,e=.returned (ixV n k)/\k<=n/\(∀ j,j < k->p j=false)/\(k < n->p k=true)/\I (if k < n then k+1 else n) w':=by
 have hrun:=λ args w=>run_callGo (P:=Tryz.prog) q args w
 go_enter Tryz.func222,Tryz.ntmps222
 go_wp2_with fail
 go_loopw [8] (λ i wr=>∃ k:Nat,k<=n/\i=.int .i64 k/\(∀ j,j < k->p j=false)/\I k wr)
  (λ i _=>n - (intOf i).toNat)
 case atStart=>exact ⟨0,Nat.zero_le _,rfl,λ j hj=>by omega,h0⟩
 case round =>
  obtain ⟨k,hk,rfl,hall,hi⟩:=hrel
  have R:=hr k _ hi
  by_cases hlt:k < n
  ·obtain ⟨x,hx⟩:∃ x,xs[k]?=some x:=⟨_,List.getElem?_eq_getElem (by rw [R.len];exact hlt)⟩
   have hxz:=h1 x (List.mem_of_getElem? hx)
   obtain ⟨b,o,rfl,hb,hc⟩:=R.cells k x hx
   haveI:SubAt b (o+k*12) x.toArray 12 wr:=⟨by simpa using hxz,hb,λ j v e=>hc j v (by simpa using e)⟩
   have c:=hf k x _ hx hi
   clear hf hr hc hx
   have Hall:=Lib.hid hall
   clear hall
   cases hp:p k
   all_goals
    rw [hp] at c
    have Hp:=Lib.hid hp
    clear hp
    go_wp2_with ((with_reducible apply wpList_load);(·exact rfl);(·exact ii))
    refine c.mono ?_
    rintro _ w' ⟨rfl,hj⟩
    dsimp only
    go_wp2_with fail
   ·exact ⟨⟨k+1,hlt,by go_num,λ j hj=>by rcases Nat.lt_succ_iff_lt_or_eq.1 hj with h | rfl;exact Hall.out j h;exact Hp.out,hj⟩,by simp [intOf];omega⟩
   ·go_ret
    exact ⟨k,by simp [ixV,hlt],hk,Hall.out,λ _=>Hp.out,by simpa [hlt] using hj⟩
  ·obtain rfl:n=k:=by omega
   clear hf hr
   have Hall:=Lib.hid hall
   clear hall
   go_wp2_with fail
   go_ret
   exact ⟨n,by simp [ixV],Nat.le_refl _,Hall.out,λ h=>absurd h (Nat.lt_irrefl _),by simpa using hi⟩
instance aggU:AggTy 207 2:=⟨λ W b o cs _=>run_loadSub W b o 2 cs _ _ Tryz.underlying207 rfl (by kernel_rfl)⟩
theorem ixfU (ad:Option Addr) (n cap:Nat) (xs:List (List Value)) (W:World) (hn:n<=1000000) (f:FuncId) (q:goFn Tryz.prog f=true) (cp:Array Value) (p:Nat->Bool) (I:Nat->World->Prop) (h0:I 0 W)
  (hr:∀ k w,I k w->RdS 2 ad n cap xs w) (hf:∀ k x w,xs[k]?=some x->I k w->Calls Tryz.prog f (#[.agg x.toArray]++cp) w λ e w'=>e=.returned (.bool (p k))/\I (k+1) w') (h1:∀ x∈xs,x.length=2) :
  Calls Tryz.prog 229 #[.slice ad n cap,.func (.func f) #[] cp] W λ e w'=>∃ k,e=.returned (ixV n k)/\k<=n/\(∀ j,j < k->p j=false)/\(k < n->p k=true)/\I (if k < n then k+1 else n) w':=by
 have hrun:=λ args w=>run_callGo (P:=Tryz.prog) q args w
 go_enter Tryz.func229,Tryz.ntmps229
 go_wp2_with fail
 go_loopw [8] (λ i wr=>∃ k:Nat,k<=n/\i=.int .i64 k/\(∀ j,j < k->p j=false)/\I k wr)
  (λ i _=>n - (intOf i).toNat)
 case atStart=>exact ⟨0,Nat.zero_le _,rfl,λ j hj=>by omega,h0⟩
 case round =>
  obtain ⟨k,hk,rfl,hall,hi⟩:=hrel
  have R:=hr k _ hi
  by_cases hlt:k < n
  ·obtain ⟨x,hx⟩:∃ x,xs[k]?=some x:=⟨_,List.getElem?_eq_getElem (by rw [R.len];exact hlt)⟩
   have hxz:=h1 x (List.mem_of_getElem? hx)
   obtain ⟨b,o,rfl,hb,hc⟩:=R.cells k x hx
   haveI:SubAt b (o+k*2) x.toArray 2 wr:=⟨by simpa using hxz,hb,λ j v e=>hc j v (by simpa using e)⟩
   have c:=hf k x _ hx hi
   clear hf hr hc hx
   have Hall:=Lib.hid hall
   clear hall
   cases hp:p k
   all_goals
    rw [hp] at c
    have Hp:=Lib.hid hp
    clear hp
    go_wp2_with ((with_reducible apply wpList_load);(·exact rfl);(·exact ii))
    refine c.mono ?_
    rintro _ w' ⟨rfl,hj⟩
    dsimp only
    go_wp2_with fail
   ·exact ⟨⟨k+1,hlt,by go_num,λ j hj=>by rcases Nat.lt_succ_iff_lt_or_eq.1 hj with h | rfl;exact Hall.out j h;exact Hp.out,hj⟩,by simp [intOf];omega⟩
   ·go_ret
    exact ⟨k,by simp [ixV,hlt],hk,Hall.out,λ _=>Hp.out,by simpa [hlt] using hj⟩
  ·obtain rfl:n=k:=by omega
   clear hf hr
   have Hall:=Lib.hid hall
   clear hall
   go_wp2_with fail
   go_ret
   exact ⟨n,by simp [ixV],Nat.le_refl _,Hall.out,λ h=>absurd h (Nat.lt_irrefl _),by simpa using hi⟩
theorem ixpU (ad:Option Addr) (n cap:Nat) (xs:List (List Value)) (W:World) [r:RdS 2 ad n cap xs W] (hn:n<=1000000) (f:FuncId) (q:goFn Tryz.prog f=true) (cp:Array Value) (p:List Value->Bool)
  (hf:∀ x∈xs,∀ g,Calls Tryz.prog f (#[.agg x.toArray]++cp) (gr W g) (Ret (.bool (p x)) (gr W g))) (h1:∀ x∈xs,x.length=2) :
  Fn 229 #[.slice ad n cap,.func (.func f) #[] cp] W (.int .i64 (ixI p xs)):=by
 refine ⟨(ixfU ad n cap xs W hn f q cp (λ k=>p xs[k]!) (λ _ w=>∃ g,w=gr W g) (ex_gr W) (λ k w ⟨g,e⟩=>e ▸ ii) (λ k x w hx ⟨g,e⟩=>?_) h1).mono ?_⟩
 ·subst e
  refine (hf _ (List.mem_of_getElem? hx) g).mono λ e w' ⟨a,b⟩=>⟨?_,?_⟩
  ·rw [a];try simp [List.getElem!_eq_getElem?_getD,hx]
  ·obtain ⟨g',rfl⟩:=gr_of_below b
   exact ⟨_,gr_gr ..⟩
 ·rintro _ w' ⟨k,rfl,hk,a,b,g,rfl⟩
  exact ⟨by rw [ixV_ixI r.len hk a b],below_gr _ _⟩
instance aggC:AggTy 370 4:=⟨λ W b o cs _=>run_loadSub W b o 4 cs _ _ Tryz.underlying370 rfl (by kernel_rfl)⟩
theorem ixfC (ad:Option Addr) (n cap:Nat) (xs:List (List Value)) (W:World) (hn:n<=1000000) (f:FuncId) (q:goFn Tryz.prog f=true) (cp:Array Value) (p:Nat->Bool) (I:Nat->World->Prop) (h0:I 0 W)
  (hr:∀ k w,I k w->RdS 4 ad n cap xs w) (hf:∀ k x w,xs[k]?=some x->I k w->Calls Tryz.prog f (#[.agg x.toArray]++cp) w λ e w'=>e=.returned (.bool (p k))/\I (k+1) w') (h1:∀ x∈xs,x.length=4) :
  Calls Tryz.prog 363 #[.slice ad n cap,.func (.func f) #[] cp] W λ e w'=>∃ k,e=.returned (ixV n k)/\k<=n/\(∀ j,j < k->p j=false)/\(k < n->p k=true)/\I (if k < n then k+1 else n) w':=by
 have hrun:=λ args w=>run_callGo (P:=Tryz.prog) q args w
 go_enter Tryz.func363,Tryz.ntmps363
 go_wp2_with fail
 go_loopw [8] (λ i wr=>∃ k:Nat,k<=n/\i=.int .i64 k/\(∀ j,j < k->p j=false)/\I k wr)
  (λ i _=>n - (intOf i).toNat)
 case atStart=>exact ⟨0,Nat.zero_le _,rfl,λ j hj=>by omega,h0⟩
 case round =>
  obtain ⟨k,hk,rfl,hall,hi⟩:=hrel
  have R:=hr k _ hi
  by_cases hlt:k < n
  ·obtain ⟨x,hx⟩:∃ x,xs[k]?=some x:=⟨_,List.getElem?_eq_getElem (by rw [R.len];exact hlt)⟩
   have hxz:=h1 x (List.mem_of_getElem? hx)
   obtain ⟨b,o,rfl,hb,hc⟩:=R.cells k x hx
   haveI:SubAt b (o+k*4) x.toArray 4 wr:=⟨by simpa using hxz,hb,λ j v e=>hc j v (by simpa using e)⟩
   have c:=hf k x _ hx hi
   clear hf hr hc hx
   have Hall:=Lib.hid hall
   clear hall
   cases hp:p k
   all_goals
    rw [hp] at c
    have Hp:=Lib.hid hp
    clear hp
    go_wp2_with ((with_reducible apply wpList_load);(·exact rfl);(·exact ii))
    refine c.mono ?_
    rintro _ w' ⟨rfl,hj⟩
    dsimp only
    go_wp2_with fail
   ·exact ⟨⟨k+1,hlt,by go_num,λ j hj=>by rcases Nat.lt_succ_iff_lt_or_eq.1 hj with h | rfl;exact Hall.out j h;exact Hp.out,hj⟩,by simp [intOf];omega⟩
   ·go_ret
    exact ⟨k,by simp [ixV,hlt],hk,Hall.out,λ _=>Hp.out,by simpa [hlt] using hj⟩
  ·obtain rfl:n=k:=by omega
   clear hf hr
   have Hall:=Lib.hid hall
   clear hall
   go_wp2_with fail
   go_ret
   exact ⟨n,by simp [ixV],Nat.le_refl _,Hall.out,λ h=>absurd h (Nat.lt_irrefl _),by simpa using hi⟩
instance aggL:AggTy 45 2:=⟨λ W b o cs _=>run_loadSub W b o 2 cs _ _ Tryz.underlying45 rfl (by kernel_rfl)⟩
theorem ixfL (ad:Option Addr) (n cap:Nat) (xs:List (List Value)) (W:World) (hn:n<=1000000) (f:FuncId) (q:goFn Tryz.prog f=true) (cp:Array Value) (p:Nat->Bool) (I:Nat->World->Prop) (h0:I 0 W)
  (hr:∀ k w,I k w->RdS 2 ad n cap xs w) (hf:∀ k x w,xs[k]?=some x->I k w->Calls Tryz.prog f (#[.agg x.toArray]++cp) w λ e w'=>e=.returned (.bool (p k))/\I (k+1) w') (h1:∀ x∈xs,x.length=2) :
  Calls Tryz.prog 330 #[.slice ad n cap,.func (.func f) #[] cp] W λ e w'=>∃ k,e=.returned (ixV n k)/\k<=n/\(∀ j,j < k->p j=false)/\(k < n->p k=true)/\I (if k < n then k+1 else n) w':=by
 have hrun:=λ args w=>run_callGo (P:=Tryz.prog) q args w
 go_enter Tryz.func330,Tryz.ntmps330
 go_wp2_with fail
 go_loopw [8] (λ i wr=>∃ k:Nat,k<=n/\i=.int .i64 k/\(∀ j,j < k->p j=false)/\I k wr)
  (λ i _=>n - (intOf i).toNat)
 case atStart=>exact ⟨0,Nat.zero_le _,rfl,λ j hj=>by omega,h0⟩
 case round =>
  obtain ⟨k,hk,rfl,hall,hi⟩:=hrel
  have R:=hr k _ hi
  by_cases hlt:k < n
  ·obtain ⟨x,hx⟩:∃ x,xs[k]?=some x:=⟨_,List.getElem?_eq_getElem (by rw [R.len];exact hlt)⟩
   have hxz:=h1 x (List.mem_of_getElem? hx)
   obtain ⟨b,o,rfl,hb,hc⟩:=R.cells k x hx
   haveI:SubAt b (o+k*2) x.toArray 2 wr:=⟨by simpa using hxz,hb,λ j v e=>hc j v (by simpa using e)⟩
   have c:=hf k x _ hx hi
   clear hf hr hc hx
   have Hall:=Lib.hid hall
   clear hall
   cases hp:p k
   all_goals
    rw [hp] at c
    have Hp:=Lib.hid hp
    clear hp
    go_wp2_with ((with_reducible apply wpList_load);(·exact rfl);(·exact ii))
    refine c.mono ?_
    rintro _ w' ⟨rfl,hj⟩
    dsimp only
    go_wp2_with fail
   ·exact ⟨⟨k+1,hlt,by go_num,λ j hj=>by rcases Nat.lt_succ_iff_lt_or_eq.1 hj with h | rfl;exact Hall.out j h;exact Hp.out,hj⟩,by simp [intOf];omega⟩
   ·go_ret
    exact ⟨k,by simp [ixV,hlt],hk,Hall.out,λ _=>Hp.out,by simpa [hlt] using hj⟩
  ·obtain rfl:n=k:=by omega
   clear hf hr
   have Hall:=Lib.hid hall
   clear hall
   go_wp2_with fail
   go_ret
   exact ⟨n,by simp [ixV],Nat.le_refl _,Hall.out,λ h=>absurd h (Nat.lt_irrefl _),by simpa using hi⟩
theorem Turns.after {W w1 w2:World} {h h1:Hl} {Q:Hl->Prop} (m:Mod h W w1) (x:∀ n,n < W.heap.size->h n=none->h1 n=none) (t:Turns w1 h1 Q w2):Turns W h Q w2:=by
 obtain ⟨m2,h2,i2,x2,p2⟩:=t
 exact ⟨m.trans m2 x,h2,i2,λ n hn e=>x2 n (Nat.lt_of_lt_of_le hn m.size) (x n hn e),p2⟩
def RwP (t:TypeId) (z g cap:Nat) (L:List (List Value)):SP:=λ h=>∃ cur,h g=some (.cells cur t)/\cur.size=cap*z/\cur.toList.take (L.length*z)=L.flatten/\(∀ x∈L,x.length=z)/\L.length<=cap
theorem flat_len {z:Nat}:∀ {L:List (List Value)},(∀ x∈L,x.length=z)->L.flatten.length=L.length*z
 | [],_=>by simp
 | x::L,h=>by
  rw [List.flatten_cons,List.length_append,h x (by simp),flat_len λ y hy=>h y (by simp [hy]),List.length_cons,Nat.add_mul]
  omega
theorem RwP.rd {t:TypeId} {z g cap c n:Nat} {L:List (List Value)} {h:Hl} (r:RwP t z g cap L h) (hn:L.length=n) (W:World) [Has W h]:RdS z (some ⟨g,0,none⟩) n c L W:=by
 obtain ⟨cur,h1,h2,h3,h4,h5⟩:=r
 refine ⟨hn,λ k x hx=>⟨g,0,rfl,Has.old h1,λ j v hj=>?_⟩⟩
 have hk:=(List.getElem?_eq_some_iff.1 hx).1
 have hjz:j < z:=by rw [<-h4 x (List.mem_of_getElem? hx)];exact (List.getElem?_eq_some_iff.1 hj).1
 rw [Has.cell h1,Nat.zero_add]
 have e:=flat_at L z k j x h4 hx hjz
 rw [<-h3,List.getElem?_take,if_pos (by
  have:=Nat.mul_le_mul_right z (show k+1<=L.length from hk)
  rw [Nat.add_mul] at this;omega)] at e
 rw [<-hj,<- e];simp
theorem RwP.sto {t:TypeId} {z g cap:Nat} {L vs:List (List Value)} {h:Hl} (r:RwP t z g cap L h) {i:Nat} (hi:i+vs.length<=L.length) (hv:∀ x∈vs,x.length=z) (h1:∀ x∈vs,∀ v∈x,v.oneCell'=true) (W:World) [hw:Has W h] :
  ∃ X,(storeCells ⟨g,i*z,none⟩ vs.flatten).run Tryz.prog W=.ok () (W.setRow g X)/\Turns W h (RwP t z g cap (L.take i++vs++L.drop (i+vs.length))) (W.setRow g X):=by
 obtain ⟨cur,b1,b2,b3,b4,b5⟩:=r
 have hg:=hw.get _ _ b1
 have hvl:=flat_len hv
 have hle:i*z+vs.flatten.length<=cur.size:=by
  have:=Nat.mul_le_mul_right z (show i+vs.length<=cap by omega)
  rw [Nat.add_mul] at this;rw [hvl,b2];omega
 have hs:=run_storeCells_at Tryz.prog g (i*z) t vs.flatten 0 cur W hg (by omega) (λ v hv=>by
  obtain ⟨x,hx,hvx⟩:=List.mem_flatten.1 hv
  exact h1 x hx v hvx)
 refine ⟨_,hs,?_⟩
 generalize hX:(cur.toList.take (i*z+0)++vs.flatten++cur.toList.drop (i*z+0+vs.flatten.length)).toArray=X
 have hXs:X.size=cur.size:=by
  rw [<-hX,List.size_toArray,List.length_append,List.length_append,List.length_take,List.length_drop,Array.length_toList];omega
 refine Turns.mk (h.put g (.cells X t)) ⟨rfl,rfl,rfl,by rw [setRow_size];exact Nat.le_refl _,λ k hk e=>?_⟩ ⟨λ m o e=>?_⟩ (λ n hn e=>?_) ⟨X,Hl.put_same ..,by rw [hXs,b2],?_,λ x hx=>?_,by simp;omega⟩
 ·exact setRow_other W g k X (λ e2=>by rw [e2,b1] at e;cases e)
 ·by_cases hm:m=g
  ·subst hm
   rw [Hl.put_same] at e
   cases e
   exact setRow_heap W m cur X t (0,0) hg
  ·rw [Hl.put_other _ _ hm] at e
   rw [setRow_other W g m X hm]
   exact hw.get m o e
 ·by_cases hm:n=g
  ·subst hm;rw [b1] at e;cases e
  ·rw [Hl.put_other _ _ hm];exact e
 ·have hlen:(L.take i++vs++L.drop (i+vs.length)).length=L.length:=by simp;omega
  rw [hlen,<- hX,List.flatten_append,List.flatten_append]
  have e1:(L.take i).flatten=cur.toList.take (i*z):=by
   have h2:L.flatten=(L.take i).flatten++(L.drop i).flatten:=by rw [<-List.flatten_append,List.take_append_drop]
   have h3:(L.take i).flatten.length=i*z:=by rw [flat_len λ x hx=>b4 x (List.mem_of_mem_take hx),List.length_take,Nat.min_eq_left (by omega)]
   have h4:(cur.toList.take (L.length*z)).take (i*z)=cur.toList.take (i*z):=by
    rw [List.take_take,Nat.min_eq_left (Nat.mul_le_mul_right z (by omega))]
   rw [<-h4,b3,h2,<- h3,List.take_left']
   rfl
  have e2:(L.drop (i+vs.length)).flatten=(cur.toList.drop ((i+vs.length)*z)).take ((L.length - (i+vs.length))*z):=by
   have h2:L.flatten=(L.take (i+vs.length)).flatten++(L.drop (i+vs.length)).flatten:=by rw [<-List.flatten_append,List.take_append_drop]
   have h3:(L.take (i+vs.length)).flatten.length=(i+vs.length)*z:=by rw [flat_len λ x hx=>b4 x (List.mem_of_mem_take hx),List.length_take,Nat.min_eq_left (by omega)]
   have h4:(L.drop (i+vs.length)).flatten=L.flatten.drop ((i+vs.length)*z):=by rw [h2,<- h3,List.drop_left]
   rw [h4,<- b3,List.drop_take,Nat.sub_mul]
  rw [e1,e2,hvl]
  simp only [Nat.add_zero,List.toList_toArray]
  have l1:(cur.toList.take (i*z)).length=i*z:=by simp;have:=Nat.mul_le_mul_right z (show i<=cap by omega);omega
  have l2:(cur.toList.take (i*z)++vs.flatten).length=(i+vs.length)*z:=by rw [List.length_append,l1,hvl,Nat.add_mul]
  rw [<-Nat.add_mul,List.take_append,l2,List.take_of_length_le (by rw [l2];exact Nat.mul_le_mul_right z hi),Nat.sub_mul]
 ·rcases List.mem_append.1 hx with hx | hx
  ·rcases List.mem_append.1 hx with hx | hx
   ·exact b4 x (List.mem_of_mem_take hx)
   ·exact hv x hx
  ·exact b4 x (List.mem_of_mem_drop hx)
theorem RwP.set {t:TypeId} {z g cap:Nat} {L:List (List Value)} {h:Hl} (r:RwP t z g cap L h) {i:Nat} (hi:i < L.length) (v:List Value) (hv:v.length=z) (h1:∀ u∈v,u.oneCell'=true) (W:World) [hw:Has W h] :
  ∃ X,(storeCells ⟨g,i*z,none⟩ v).run Tryz.prog W=.ok () (W.setRow g X)/\Turns W h (RwP t z g cap (L.set i v)) (W.setRow g X):=by
 have:=r.sto (vs:=[v]) (i:=i) hi (by simpa using hv) (by simpa using h1) W
 have e:L.take i++[v]++L.drop (i+1)=L.set i v:=by rw [List.set_eq_take_append_cons_drop,if_pos hi];simp
 rw [List.flatten_singleton,List.length_singleton,e] at this
 exact this
theorem stoTy_of {t:TypeId} {b o z:Nat} {v:List Value} {W W':World} (hz:(Tryz.prog.info? t).map (·.size)=some z) (hv:v.length=z) (hr:(storeCells ⟨b,o,none⟩ v).run Tryz.prog W=.ok () W'):StoTy t b o v.toArray W W':=by
 refine ⟨?_⟩
 cases hq:Tryz.prog.info? t with
 | none=>simp [hq] at hz
 | some i =>
  have hz:i.size=v.length:=by rw [hq] at hz;rw [hv];simpa using hz
  simp [Instr.storeAt,storeVar,Instr.sureAddr,sizeOf,typeInfo,hq,Value.cells,hz,hr]
theorem sto_new {t t':TypeId} {z:Nat} {v:List Value} {zs:Array Value} (hz:(Tryz.prog.info? t).map (·.size)=some z) (hv:v.length=z) (h1:∀ u∈v,u.oneCell'=true) (hzs:zs.size=z) (W:World):StoTy t W.heap.size 0 v.toArray (W.alloc (.cells zs t')) (W.alloc (.cells v.toArray t')):=by
 refine stoTy_of hz hv ?_
 have hs:=run_storeCells_at Tryz.prog W.heap.size 0 t' v 0 zs (W.alloc (.cells zs t')) (alloc_heap_new _ _) (by omega) h1
 rw [hs]
 simp only [Nat.zero_add,List.take_zero,List.nil_append]
 rw [List.drop_eq_nil_of_le (by rw [Array.length_toList];omega),List.append_nil,setRow_at]
theorem sub_new {t':TypeId} {z:Nat} {v:List Value} (hv:v.length=z) (W:World):SubAt W.heap.size 0 v.toArray z (W.alloc (.cells v.toArray t')) :=
 sub_of (by simpa using hv) λ j u e=>by simpa using e
theorem row_set {l:List SP} {k:Nat} {t:TypeId} {z g cap:Nat} {L:List (List Value)} {h:Hl} (s:star l h) (e:l[k]?=some (RwP t z g cap L)) {i:Nat} (hi:i < L.length) (v:List Value) (hv:v.length=z) (h1:∀ u∈v,u.oneCell'=true) (W:World) [hw:Has W h] :
  ∃ W',(storeCells ⟨g,i*z,none⟩ v).run Tryz.prog W=.ok () W'/\Turns W h (star (l.set k (RwP t z g cap (L.set i v)))) W':=by
 obtain ⟨h0,r,sb,_⟩:=s.focus e
 haveI:=hw.sub sb
 obtain ⟨X,hr,_⟩:=r.set hi v hv h1 W
 refine ⟨_,hr,Turns.focus hw s e λ h0 r i=>?_⟩
 obtain ⟨X',hr',t⟩:=r.set hi v hv h1 W
 rw [hr] at hr'
 injection hr' with _ e
 rw [e];exact t
theorem zero_flat (c:List Value) (hc:0 < c.length) (n:Nat):(Builtin.zeroCells c.toArray n).toList=(List.replicate n c).flatten:=by
 apply List.ext_getElem?
 intro j
 have hl:(List.replicate n c).flatten.length=n*c.length:=by simp
 by_cases hj:j < n*c.length
 ·have hq:j / c.length < n:=Nat.div_lt_of_lt_mul (by rw [Nat.mul_comm];exact hj)
  have hm:j % c.length < c.length:=Nat.mod_lt _ hc
  have e:j=j / c.length*c.length+j % c.length:=by rw [Nat.mul_comm];exact (Nat.div_add_mod ..).symm
  have h2:=flat_at (List.replicate n c) c.length (j / c.length) (j % c.length) c (by simp) (by simp [hq]) hm
  rw [<-e] at h2
  rw [h2]
  simp [Builtin.zeroCells,hj,hm]
 ·rw [List.getElem?_eq_none (by simp [Builtin.zeroCells];omega),List.getElem?_eq_none (by rw [hl];omega)]
theorem row_clear {l:List SP} {k:Nat} {t ts:TypeId} {z g cap:Nat} {L:List (List Value)} {h:Hl} (s:star l h) (e:l[k]?=some (RwP t z g cap L)) {i c:Nat} (hi:i<=L.length) (zr:Value) (ht:Tryz.prog.underlying ts=some (.slice t)) (hzr:∀ w,(zeroValue t).run Tryz.prog w=.ok zr w) (hv:zr.cells.toList.length=z) (h0:0 < z) (h1:∀ u∈zr.cells.toList,u.oneCell'=true) (W:World) [hw:Has W h] :
  ∃ W',(∀ ty,(Builtin.clear_ #[ts] ty #[.slice (some ⟨g,i*z,none⟩) (L.length - i) c]).run Tryz.prog W=.ok (.tuple #[]) W')/\Turns W h (star (l.set k (RwP t z g cap (L.take i++List.replicate (L.length - i) zr.cells.toList)))) W':=by
 obtain ⟨h0',r,sb,_⟩:=s.focus e
 haveI:=hw.sub sb
 have hvs:i+(List.replicate (L.length - i) zr.cells.toList).length<=L.length:=by simp;omega
 obtain ⟨X,hr,_⟩:=r.sto (vs:=List.replicate (L.length - i) zr.cells.toList) hvs (by simp;intro _;simpa using hv) (by intro x hx;rw [List.eq_of_mem_replicate hx];exact h1) W
 have hd:L.drop (i+(List.replicate (L.length - i) zr.cells.toList).length)=[]:=by simp;omega
 by_cases hn:L.length - i=0
 ·refine ⟨W,by intro ty;simp [Builtin.clear_,hn,run_underlying ht],Turns.same hw ?_⟩
  have e2:i=L.length:=by omega
  rw [hn,e2,List.take_length,List.replicate_zero,List.append_nil]
  have:l.set k (RwP t z g cap L)=l:=by rw [<-List.getElem_eq_iff (List.getElem?_eq_some_iff.1 e).1 |>.2 e];simp
  rw [this];exact s
 ·refine ⟨W.setRow g X,?_,Turns.focus hw s e λ h0 r i'=>?_⟩
  ·intro ty
   obtain ⟨m,hm⟩:∃ m,L.length - i=m+1:=⟨L.length - i - 1,by omega⟩
   rw [<-zero_flat _ (by omega)] at hr
   rw [hm] at hr ⊢
   simp [Builtin.clear_,run_underlying ht,hzr,hr]
  ·obtain ⟨X',hr',t⟩:=r.sto (vs:=List.replicate (L.length - i) zr.cells.toList) hvs (by simp;intro _;simpa using hv) (by intro x hx;rw [List.eq_of_mem_replicate hx];exact h1) W
   rw [hr] at hr'
   injection hr' with _ e2
   rw [hd,List.append_nil] at t
   rw [e2];exact t
theorem beq_cast (x y:Nat):((x:Int) == (y:Int))=decide (x=y):=by rw [Bool.eq_iff_iff];simp;omega
def strV (l:List ByteArray):List Value:=l.map Value.string
theorem strC_flat (l:List ByteArray):(strC l).flatten=strV l:=by induction l <;> simp_all [strC,strV]
theorem OwnS.rdS {ad:Option Addr} {n cap:Nat} {l:List ByteArray} {W W1:World} (h:OwnS 9 1 ad n cap (strV l) W W1):RdS 1 ad n cap (strC l) W :=
 OwnS.rd (W1:=W1) (e:=9) (by rw [strC_flat];exact h) (by have:=h.own.1;simpa [strC,strV] using this) (by simp [strC])
theorem strC_len (l:List ByteArray):∀ x∈strC l,x.length=1:=by simp [strC]
set_option maxRecDepth 512 in
theorem even1_at (s:ByteArray) (ad:Option Addr) (n cap b:Nat) (s0:ByteArray) (l:List ByteArray) (W:World) (hb:Old b W) (hc:W.cell? ⟨b,0,none⟩=some (.slice ad n cap)) [h:RdS 1 ad n cap (strC (s0::l)) W] :
  Calls Tryz.prog 354 #[.string s,.pointer (some ⟨b,0,none⟩)] W (Ret (.bool (decide (¬ s.size=s0.size))) W):=by
 obtain ⟨b',o,rfl,hbo,hc0⟩:=h.cells 0 [.string s0] rfl
 have c0:=hc0 0 _ rfl
 rw [Nat.zero_mul,Nat.add_zero] at c0
 have hn:0 < n:=by have:=h.len;simp only [strC,List.map_cons,List.length_cons] at this;omega
 clear hc0
 go_enter Tryz.func354,Tryz.ntmps354
 go_wp2_with fail
 go_ret
 exact Ret.mk (congrArg Value.bool (by simp [bne,beq_cast])) grown
theorem even_fn (ad:Option Addr) (n cap:Nat) (s0:ByteArray) (l:List ByteArray) (W:World) [h:RdS 1 ad n cap (strC (s0::l)) W] (hn:n<=1000000) :
  Fn 346 #[.slice ad n cap] W (.bool (evenB (s0::l))):=by
 refine ⟨?_⟩
 have key:∀ W':World,RdS 1 ad n cap (strC (s0::l)) W'->∀ b,Old b W'->W'.cell? ⟨b,0,none⟩=some (.slice ad n cap)->Fn 353 #[.slice ad n cap,.func (.func 354) #[] #[.pointer (some ⟨b,0,none⟩)]] W' (.bool (!evenB (s0::l))):=by
  intro W' hr b hb hc
  have e:(!evenB (s0::l))=(strC (s0::l)).any λ x=>match x with
   | [.string s]=>decide (¬ s.size=s0.size)
   | _=>false:=by
   unfold evenB strC
   rw [List.any_map,List.not_all_eq_any_not]
   congr 1
   funext s
   simp [BEq.beq]
  rw [e]
  refine cfS ad n cap _ W' hn _ (by kernel_rfl) _ _ (λ v hv g=>?_) (strC_len _)
  obtain ⟨s,_,rfl⟩:∃ s,s∈s0::l/\v=.string s:=by
   obtain ⟨s,h1,h2⟩:=List.mem_map.1 hv
   exact ⟨s,h1,by injection h2 with h2;exact h2.symm⟩
  exact even1_at s ad n cap b s0 l _ ii (by rw [cell_gr];exact hc)
 go_enter Tryz.func346,Tryz.ntmps346
 go_wp2_with fail
 refine (key _ ii _ ii (by rw [cell_at];rfl)).go λ g=>?_
 dsimp only
 go_wp2_with fail
 go_ret
 exact Ret.mk (by simp) grown
set_option maxRecDepth 512 in
theorem make_fn (ad:Option Addr) (n cap:Nat) (l:List ByteArray) (W:World) [h:RdS 1 ad n cap (strC l) W] (m:Nat) (hm:m<=65536) (h0:0 < n) (hn:n<=1000) (hl:∀ s∈l,s.size=m) :
  Fn 339 #[.slice ad n cap] W (.tuple #[.string (makeS l),.int .i64 0]):=by
 refine ⟨?_⟩
 have hlen:l.length=n:=by have:=h.len;simpa [strC] using this
 obtain ⟨s0,l',rfl⟩:∃ s0 l',l=s0::l':=by
  cases l with
  | nil=>simp at hlen;omega
  | cons a b=>exact ⟨a,b,rfl⟩
 have he:evenB (s0::l')=true:=by
  unfold evenB
  rw [List.all_eq_true]
  intro s hs
  simp [hl s hs,hl s0 (by simp)]
 have e1:makeS (s0::l')=⟨(oneL m (s0::l')).toArray⟩:=by
  unfold makeS
  rw [he]
  simp [hl s0 (by simp)]
 rw [e1]
 have ev:∀ W',[RdS 1 ad n cap (strC (s0::l')) W']->Fn 346 #[.slice ad n cap] W' (.bool true)  :=λ W' _=>he ▸ even_fn ad n cap s0 l' W' (by omega)
 have on:∀ W',[RdS 1 ad n cap (strC (s0::l')) W']->Fn 347 #[.slice ad n cap] W' (.string ⟨(oneL m (s0::l')).toArray⟩):=λ W' _=>one_at ad n cap _ W' m hm h0 hn hl
 generalize (⟨(oneL m (s0::l')).toArray⟩:ByteArray)=r at *
 generalize s0::l'=L at *
 clear he e1 hl
 go_enter Tryz.func339,Tryz.ntmps339
 go_wp2_with (with_reducible refine Fn.go λ g=>?_)
 go_ret2
 exact Ret.mk rfl grown
def sect (t:ByteArray) (i:Nat):ByteArray:=t.extract (64*i) (64*i+64)
def sects (t:ByteArray) (z:Nat):List ByteArray:=(List.range z).map (sect t)
theorem sects_len (t:ByteArray) (z:Nat):(sects t z).length=z:=by simp [sects]
theorem sects_size (t:ByteArray) (z:Nat) (h:t.size=64*z):∀ s∈sects t z,s.size=64:=by
 intro s hs
 obtain ⟨i,hi,rfl⟩:=List.mem_map.1 hs
 have hi:i < z:=by simpa using hi
 simp [sect,ByteArray.size_extract,h]
 omega
theorem sectors_at (t:ByteArray) (z:Nat) (ht:t.size=64*z) (hz:1<=z/\z<=4) (w:World) :
  Calls Tryz.prog 337 #[.string t] w λ e w'=>∃ ad cap,e=.returned (.tuple #[.slice ad z cap,.bool true])/\OwnS 9 1 ad z cap (strV (sects t z)) w' w:=by
 obtain ⟨h1,h2⟩:=hz
 have hne:t.toList.isEmpty=false:=ne_of_size (by omega)
 have hsz:(t.size:Int)=64*z:=by omega
 have hmod:(64*(z:Int)).tmod 64=0:=by rw [Int.tmod_eq_emod_of_nonneg (by omega)];omega
 go_enter Tryz.func337,Tryz.ntmps337
 go_wp2_with fail
 go_loopw [4,5] (λ v i wr=>∃ (j:Nat) (ad:Option Addr) (cap:Nat),j<=z/\i=.int .i64 (64*(j:Int))/\v=.slice ad j cap/\OwnS 9 1 ad j cap (strV (sects t j)) wr w)
  (λ _ i _=>64*z - (intOf i).toNat)
 case atStart=>exact ⟨0,none,0,Nat.zero_le _,rfl,rfl,OwnS.nil _ _ _⟩
 case round =>
  obtain ⟨j,ad,cap,hj,rfl,rfl,ho⟩:=hrel
  obtain ⟨g,rfl⟩:=ho.grw
  by_cases hlt:j < z
  ·have hsl:64*j+64<=t.size:=by omega
   go_wp2_with (at_builtin;(with_reducible apply wpList_app1);(·exact rfl);(·exact rfl);(·exact ii);(·exact ii);(·exact ii);(·exact rfl);(·decide);(·omega);intro gA capA gW hOwn)
   have e:(strV (sects t j))++[Value.string (t.extract (64*j) (64*j+64))]=strV (sects t (j+1)):=by simp [strV,sects,List.range_succ,sect]
   rw [e] at hOwn
   exact ⟨⟨j+1,_,_,hlt,by go_num,rfl,hOwn⟩,by simp [intOf];omega⟩
  ·obtain rfl:z=j:=by omega
   go_wp2_with fail
   go_ret2
   exact ⟨_,_,rfl,ho⟩
end Go.Proofs.YtlfjdjndhcmliaaGreatDoor
