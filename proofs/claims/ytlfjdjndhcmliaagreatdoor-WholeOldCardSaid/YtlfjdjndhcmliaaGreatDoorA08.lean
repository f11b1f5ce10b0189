/- WholeOld, part 8. -/
import Derived.Test.YtlfjdjndhcmliaaGreatDoorA06
import Derived.Test.YtlfjdjndhcmliaaGreatDoorA07
import Derived.Test.YtlfjdjndhcmliaaGreatDoorA04
set_option maxRecDepth 100000
set_option maxHeartbeats 4000000
set_option linter.all false
namespace Go.Proofs.YtlfjdjndhcmliaaGreatDoor
open Go.RowKit Go.Sort
theorem Z9{P:Program}{f:FuncId}(hp:XB P f=true)(args:Array Value)(w:World):(callFunc f args).run P w=.ok (.enter f args) w:=by
 unfold XB at hp;split at hp
 ·rename_i fn hf;simp only [Bool.and_eq_true,Bool.not_eq_true',Option.isSome_iff_exists]at hp;obtain⟨h1,c,h2⟩:=hp
  have h1 : ¬ fn.name = "runtime.NumGoroutine" := by simpa using h1
  simp [callFunc,hf,h1,h2]
 ·cases hp
def zX(n k:Nat):Value:=.int .i64 (if k<n then(k:Int)else -1)
def KJ{α:Type}(p:α->Bool)(l:List α):Int:=if l.any p then(l.findIdx p:Nat)else -1
theorem ZkQ{α:Type}{p:α->Bool}{l:List α}{k:Nat}{t:α}(h:∀(j:Nat)(x:α),j<k->l[j]?=some x->p x=false)(ht:l[k]?=some t)(hp:p t=true):KJ p l=k:=by
 unfold KJ;rw [if_pos (List.any_eq_true.2 ⟨t,List.mem_of_getElem? ht,hp⟩)];obtain⟨hk,e⟩:=List.getElem?_eq_some_iff.1 ht
 congr 1
 rw [List.findIdx_eq hk];exact⟨by rw [e];exact hp,λ j hj=>h j _ hj (List.getElem?_eq_getElem (by omega))⟩
theorem Zgd{α:Type}{p:α->Bool}{l:List α}(h:∀(j:Nat)(x:α),l[j]?=some x->p x=false):KJ p l=-1:=by
 unfold KJ;rw [if_neg];intro e;obtain⟨x,hx,hp⟩:=List.any_eq_true.1 e;obtain⟨j,hj⟩:=List.getElem?_of_mem hx;rw [h j x hj]at hp;cases hp
theorem ji{α:Type}(p:α->Bool)(l:List α):decide (0<=KJ p l)=l.any p:=by
 unfold KJ;split
 ·rename_i h;rw [h];simp
 ·rename_i h;simp only [Bool.not_eq_true]at h;rw [h];rfl
theorem zI{α:Type}[Inhabited α]{p:α->Bool}{l:List α}{n k:Nat}(hn:l.length=n)(hk:k<=n)(h1:∀ j,j<k->p l[j]! = false)(h2:k<n->p l[k]! = true):zX n k=.int .i64 (KJ p l):=by
 unfold zX;split
 ·rename_i h
  rw [ZkQ (p:=p) (l:=l) (k:=k) (t:=l[k]!) (λ j x hj hx=>by
   have:=h1 j hj;rw [List.getElem!_eq_getElem?_getD,hx]at this
   exact this) (by rw [List.getElem!_eq_getElem?_getD,List.getElem?_eq_getElem (by omega)];rfl) (h2 h)]
 ·obtain rfl:n=k:=by omega
  rw [Zgd λ j x hx=>?_];have hj:=(List.getElem?_eq_some_iff.1 hx).1;have:=h1 j (by omega);rw [List.getElem!_eq_getElem?_getD,hx]at this;exact this
theorem ZoI(ad:Option Addr)(n cap:Nat)(xs:List (List Value))(W:World)(hn:n<=1000000)(f:FuncId)(q:XB Tryz.prog f=true)(cp:Array Value)(p:Nat->Bool)(I:Nat->World->Prop)(h0:I 0 W)
  (hr:∀ k w,I k w->Zy 1 ad n cap xs w) (hf:∀ k v w,xs[k]?=some [v]->I k w->Calls Tryz.prog f (#[v]++cp) w λ e w'=>e=.returned (.bool (p k))/\I (k+1) w') (h1:∀ x∈xs,x.length=1) :
  Calls Tryz.prog 362 #[.slice ad n cap,.func (.func f) #[] cp] W λ e w'=>∃ k,e=.returned (zX n k)/\k<=n/\(∀ j,j<k->p j=false)/\(k<n->p k=true)/\I (if k<n then k+1 else n) w':=by
 have hrun:=λ args w=>Z9 (P:=Tryz.prog) q args w
 go_in
 go_wp2_with fail
 go_loopw [8] (λ i wr=>∃ k:Nat,k<=n/\i=.int .i64 k/\(∀ j,j<k->p j=false)/\I k wr)
  (λ i _=>n-(intOf i).toNat)
 case atStart=>exact⟨0,Nat.zero_le _,rfl,λ j hj=>by omega,h0⟩
 case round =>
  obtain⟨k,hk,rfl,hall,hi⟩:=hrel;have R:=hr k _ hi
  by_cases hlt:k<n
  ·obtain⟨x,hx⟩:∃ x,xs[k]?=some x:=⟨_,List.getElem?_eq_getElem (by rw [R.len];exact hlt)⟩
   obtain⟨v,rfl⟩:=List.length_eq_one_iff.1 (h1 x (List.mem_of_getElem? hx));obtain⟨b,o,rfl,hb,hc⟩:=R.cells k [v] hx;have cv:=hc 0 _ rfl;rw [Nat.mul_one,Nat.add_zero]at cv;have c:=hf k v _ hx hi;clear hf hr hc hx;have Hall:=Lib.hid hall;clear hall;cases hp:p k
   all_goals
    rw [hp]at c;have Hp:=Lib.hid hp;clear hp;go_wp2_with fail;refine c.mono ?_;rintro _ w' ⟨rfl,hj⟩;dsimp only;go_wp2_with fail
   ·exact⟨⟨k+1,hlt,by go_num,λ j hj=>by rcases Nat.lt_succ_iff_lt_or_eq.1 hj with h|rfl;exact Hall.out j h;exact Hp.out,hj⟩,by simp [intOf];omega⟩
   ·go_ret;exact⟨k,by simp [zX,hlt],hk,Hall.out,λ _=>Hp.out,by simpa [hlt]using hj⟩
  ·obtain rfl:n=k:=by omega
   clear hf hr;have Hall:=Lib.hid hall;clear hall;go_wp2_with fail;go_ret;exact⟨n,by simp [zX],Nat.le_refl _,Hall.out,λ h=>absurd h (Nat.lt_irrefl _),by simpa using hi⟩
theorem Zpg(ad:Option Addr)(n cap:Nat)(xs:List (List Value))(W:World)[r:Zy 1 ad n cap xs W](hn:n<=1000000)(f:FuncId)(q:XB Tryz.prog f=true)(cp:Array Value)(p:List Value->Bool)
  (hf:∀ v,[v]∈xs->∀ g,Calls Tryz.prog f (#[v]++cp) (gr W g) (ZM (.bool (p [v])) (gr W g))) (h1:∀ x∈xs,x.length=1) :
  Fn 362 #[.slice ad n cap,.func (.func f) #[] cp] W (.int .i64 (KJ p xs)):=by
 refine⟨(ZoI ad n cap xs W hn f q cp (λ k=>p xs[k]!) (λ _ w=>∃ g,w=gr W g) (Y1 W) (λ k w ⟨g,e⟩=>e▸ii) (λ k x w hx ⟨g,e⟩=>?_) h1).mono ?_⟩
 ·subst e;refine(hf _ (List.mem_of_getElem? hx) g).mono λ e w' ⟨a,b⟩=>⟨?_,?_⟩
  ·rw [a];try simp [List.getElem!_eq_getElem?_getD,hx]
  ·obtain⟨g',rfl⟩:=Zf b;exact⟨_,ZW ..⟩
 ·rintro _ w' ⟨k,rfl,hk,a,b,g,rfl⟩;exact⟨by rw [zI r.len hk a b],Yb _ _⟩
set_option maxRecDepth 512 in
theorem cfS(ad:Option Addr)(n cap:Nat)(xs:List (List Value))(W:World)[r:Zy 1 ad n cap xs W](hn:n<=1000000)(f:FuncId)(q:XB Tryz.prog f=true)(cp:Array Value)(p:List Value->Bool)
  (hf:∀ v,[v]∈xs->∀ g,Calls Tryz.prog f (#[v]++cp) (gr W g) (ZM (.bool (p [v])) (gr W g))) (h1:∀ x∈xs,x.length=1) :
  Fn 353 #[.slice ad n cap,.func (.func f) #[] cp] W (.bool (xs.any p)):=by
 refine⟨?_⟩;have e:=Lib.hid (ji p xs);haveI:=Zpg ad n cap xs W hn f q cp p hf h1;clear hf;generalize KJ p xs=i at *
 generalize xs.any p=b at *
 go_in
 go_wp2_with(with_reducible refine Fn.go λ g=>?_);go_ret;exact ZM.mk (congrArg Value.bool (by rw [<-e.out])) grown
theorem Zok(ad:Option Addr)(n cap:Nat)(xs:List (List Value))(W:World)(hn:n<=1000000)(f:FuncId)(q:XB Tryz.prog f=true)(cp:Array Value)(p:Nat->Bool)(I:Nat->World->Prop)(h0:I 0 W)
  (hr:∀ k w,I k w->Zy 1 ad n cap xs w) (hf:∀ k v w,xs[k]?=some [v]->I k w->Calls Tryz.prog f (#[v]++cp) w λ e w'=>e=.returned (.bool (p k))/\I (k+1) w') (h1:∀ x∈xs,x.length=1) :
  Calls Tryz.prog 212 #[.slice ad n cap,.func (.func f) #[] cp] W λ e w'=>∃ k,e=.returned (zX n k)/\k<=n/\(∀ j,j<k->p j=false)/\(k<n->p k=true)/\I (if k<n then k+1 else n) w':=by
 have hrun:=λ args w=>Z9 (P:=Tryz.prog) q args w
 go_in
 go_wp2_with fail
 go_loopw [8] (λ i wr=>∃ k:Nat,k<=n/\i=.int .i64 k/\(∀ j,j<k->p j=false)/\I k wr)
  (λ i _=>n-(intOf i).toNat)
 case atStart=>exact⟨0,Nat.zero_le _,rfl,λ j hj=>by omega,h0⟩
 case round =>
  obtain⟨k,hk,rfl,hall,hi⟩:=hrel;have R:=hr k _ hi
  by_cases hlt:k<n
  ·obtain⟨x,hx⟩:∃ x,xs[k]?=some x:=⟨_,List.getElem?_eq_getElem (by rw [R.len];exact hlt)⟩
   obtain⟨v,rfl⟩:=List.length_eq_one_iff.1 (h1 x (List.mem_of_getElem? hx));obtain⟨b,o,rfl,hb,hc⟩:=R.cells k [v] hx;have cv:=hc 0 _ rfl;rw [Nat.mul_one,Nat.add_zero]at cv;have c:=hf k v _ hx hi;clear hf hr hc hx;have Hall:=Lib.hid hall;clear hall;cases hp:p k
   all_goals
    rw [hp]at c;have Hp:=Lib.hid hp;clear hp;go_wp2_with fail;refine c.mono ?_;rintro _ w' ⟨rfl,hj⟩;dsimp only;go_wp2_with fail
   ·exact⟨⟨k+1,hlt,by go_num,λ j hj=>by rcases Nat.lt_succ_iff_lt_or_eq.1 hj with h|rfl;exact Hall.out j h;exact Hp.out,hj⟩,by simp [intOf];omega⟩
   ·go_ret;exact⟨k,by simp [zX,hlt],hk,Hall.out,λ _=>Hp.out,by simpa [hlt]using hj⟩
  ·obtain rfl:n=k:=by omega
   clear hf hr;have Hall:=Lib.hid hall;clear hall;go_wp2_with fail;go_ret;exact⟨n,by simp [zX],Nat.le_refl _,Hall.out,λ h=>absurd h (Nat.lt_irrefl _),by simpa using hi⟩
theorem Zog(ad:Option Addr)(n cap:Nat)(xs:List (List Value))(W:World)[r:Zy 1 ad n cap xs W](hn:n<=1000000)(f:FuncId)(q:XB Tryz.prog f=true)(cp:Array Value)(p:List Value->Bool)
  (hf:∀ v,[v]∈xs->∀ g,Calls Tryz.prog f (#[v]++cp) (gr W g) (ZM (.bool (p [v])) (gr W g))) (h1:∀ x∈xs,x.length=1) :
  Fn 212 #[.slice ad n cap,.func (.func f) #[] cp] W (.int .i64 (KJ p xs)):=by
 refine⟨(Zok ad n cap xs W hn f q cp (λ k=>p xs[k]!) (λ _ w=>∃ g,w=gr W g) (Y1 W) (λ k w ⟨g,e⟩=>e▸ii) (λ k x w hx ⟨g,e⟩=>?_) h1).mono ?_⟩
 ·subst e;refine(hf _ (List.mem_of_getElem? hx) g).mono λ e w' ⟨a,b⟩=>⟨?_,?_⟩
  ·rw [a];try simp [List.getElem!_eq_getElem?_getD,hx]
  ·obtain⟨g',rfl⟩:=Zf b;exact⟨_,ZW ..⟩
 ·rintro _ w' ⟨k,rfl,hk,a,b,g,rfl⟩;exact⟨by rw [zI r.len hk a b],Yb _ _⟩
set_option maxRecDepth 512 in
theorem cfI(ad:Option Addr)(n cap:Nat)(xs:List (List Value))(W:World)[r:Zy 1 ad n cap xs W](hn:n<=1000000)(f:FuncId)(q:XB Tryz.prog f=true)(cp:Array Value)(p:List Value->Bool)
  (hf:∀ v,[v]∈xs->∀ g,Calls Tryz.prog f (#[v]++cp) (gr W g) (ZM (.bool (p [v])) (gr W g))) (h1:∀ x∈xs,x.length=1) :
  Fn 147 #[.slice ad n cap,.func (.func f) #[] cp] W (.bool (xs.any p)):=by
 refine⟨?_⟩;have e:=Lib.hid (ji p xs);haveI:=Zog ad n cap xs W hn f q cp p hf h1;clear hf;generalize KJ p xs=i at *
 generalize xs.any p=b at *
 go_in
 go_wp2_with(with_reducible refine Fn.go λ g=>?_);go_ret;exact ZM.mk (congrArg Value.bool (by rw [<-e.out])) grown
theorem Zpb(ad:Option Addr)(n cap:Nat)(xs:List (List Value))(W:World)(hn:n<=1000000)(f:FuncId)(q:XB Tryz.prog f=true)(cp:Array Value)(p:Nat->Bool)(I:Nat->World->Prop)(h0:I 0 W)
  (hr:∀ k w,I k w->Zy 1 ad n cap xs w) (hf:∀ k v w,xs[k]?=some [v]->I k w->Calls Tryz.prog f (#[v]++cp) w λ e w'=>e=.returned (.bool (p k))/\I (k+1) w') (h1:∀ x∈xs,x.length=1) :
  Calls Tryz.prog 176 #[.slice ad n cap,.func (.func f) #[] cp] W λ e w'=>∃ k,e=.returned (zX n k)/\k<=n/\(∀ j,j<k->p j=false)/\(k<n->p k=true)/\I (if k<n then k+1 else n) w':=by
 have hrun:=λ args w=>Z9 (P:=Tryz.prog) q args w
 go_in
 go_wp2_with fail
 go_loopw [8] (λ i wr=>∃ k:Nat,k<=n/\i=.int .i64 k/\(∀ j,j<k->p j=false)/\I k wr)
  (λ i _=>n-(intOf i).toNat)
 case atStart=>exact⟨0,Nat.zero_le _,rfl,λ j hj=>by omega,h0⟩
 case round =>
  obtain⟨k,hk,rfl,hall,hi⟩:=hrel;have R:=hr k _ hi
  by_cases hlt:k<n
  ·obtain⟨x,hx⟩:∃ x,xs[k]?=some x:=⟨_,List.getElem?_eq_getElem (by rw [R.len];exact hlt)⟩
   obtain⟨v,rfl⟩:=List.length_eq_one_iff.1 (h1 x (List.mem_of_getElem? hx));obtain⟨b,o,rfl,hb,hc⟩:=R.cells k [v] hx;have cv:=hc 0 _ rfl;rw [Nat.mul_one,Nat.add_zero]at cv;have c:=hf k v _ hx hi;clear hf hr hc hx;have Hall:=Lib.hid hall;clear hall;cases hp:p k
   all_goals
    rw [hp]at c;have Hp:=Lib.hid hp;clear hp;go_wp2_with fail;refine c.mono ?_;rintro _ w' ⟨rfl,hj⟩;dsimp only;go_wp2_with fail
   ·exact⟨⟨k+1,hlt,by go_num,λ j hj=>by rcases Nat.lt_succ_iff_lt_or_eq.1 hj with h|rfl;exact Hall.out j h;exact Hp.out,hj⟩,by simp [intOf];omega⟩
   ·go_ret;exact⟨k,by simp [zX,hlt],hk,Hall.out,λ _=>Hp.out,by simpa [hlt]using hj⟩
  ·obtain rfl:n=k:=by omega
   clear hf hr;have Hall:=Lib.hid hall;clear hall;go_wp2_with fail;go_ret;exact⟨n,by simp [zX],Nat.le_refl _,Hall.out,λ h=>absurd h (Nat.lt_irrefl _),by simpa using hi⟩
theorem ZoG(ad:Option Addr)(n cap:Nat)(xs:List (List Value))(W:World)[r:Zy 1 ad n cap xs W](hn:n<=1000000)(f:FuncId)(q:XB Tryz.prog f=true)(cp:Array Value)(p:List Value->Bool)
  (hf:∀ v,[v]∈xs->∀ g,Calls Tryz.prog f (#[v]++cp) (gr W g) (ZM (.bool (p [v])) (gr W g))) (h1:∀ x∈xs,x.length=1) :
  Fn 176 #[.slice ad n cap,.func (.func f) #[] cp] W (.int .i64 (KJ p xs)):=by
 refine⟨(Zpb ad n cap xs W hn f q cp (λ k=>p xs[k]!) (λ _ w=>∃ g,w=gr W g) (Y1 W) (λ k w ⟨g,e⟩=>e▸ii) (λ k x w hx ⟨g,e⟩=>?_) h1).mono ?_⟩
 ·subst e;refine(hf _ (List.mem_of_getElem? hx) g).mono λ e w' ⟨a,b⟩=>⟨?_,?_⟩
  ·rw [a];try simp [List.getElem!_eq_getElem?_getD,hx]
  ·obtain⟨g',rfl⟩:=Zf b;exact⟨_,ZW ..⟩
 ·rintro _ w' ⟨k,rfl,hk,a,b,g,rfl⟩;exact⟨by rw [zI r.len hk a b],Yb _ _⟩
set_option maxRecDepth 512 in
theorem cfD(ad:Option Addr)(n cap:Nat)(xs:List (List Value))(W:World)[r:Zy 1 ad n cap xs W](hn:n<=1000000)(f:FuncId)(q:XB Tryz.prog f=true)(cp:Array Value)(p:List Value->Bool)
  (hf:∀ v,[v]∈xs->∀ g,Calls Tryz.prog f (#[v]++cp) (gr W g) (ZM (.bool (p [v])) (gr W g))) (h1:∀ x∈xs,x.length=1) :
  Fn 124 #[.slice ad n cap,.func (.func f) #[] cp] W (.bool (xs.any p)):=by
 refine⟨?_⟩;have e:=Lib.hid (ji p xs);haveI:=ZoG ad n cap xs W hn f q cp p hf h1;clear hf;generalize KJ p xs=i at *
 generalize xs.any p=b at *
 go_in
 go_wp2_with(with_reducible refine Fn.go λ g=>?_);go_ret;exact ZM.mk (congrArg Value.bool (by rw [<-e.out])) grown
instance Zrj:XF 92 2:=⟨λ W b o cs _=>ZS W b o 2 cs _ _ Tryz.underlying92 rfl (by kernel_rfl)⟩
theorem ZoS(ad:Option Addr)(n cap:Nat)(xs:List (List Value))(W:World)(hn:n<=1000000)(f:FuncId)(q:XB Tryz.prog f=true)(cp:Array Value)(p:Nat->Bool)(I:Nat->World->Prop)(h0:I 0 W)
  (hr:∀ k w,I k w->Zy 2 ad n cap xs w) (hf:∀ k x w,xs[k]?=some x->I k w->Calls Tryz.prog f (#[.agg x.toArray]++cp) w λ e w'=>e=.returned (.bool (p k))/\I (k+1) w') (h1:∀ x∈xs,x.length=2) :
  Calls Tryz.prog 213 #[.slice ad n cap,.func (.func f) #[] cp] W λ e w'=>∃ k,e=.returned (zX n k)/\k<=n/\(∀ j,j<k->p j=false)/\(k<n->p k=true)/\I (if k<n then k+1 else n) w':=by
 have hrun:=λ args w=>Z9 (P:=Tryz.prog) q args w
 go_in
 go_wp2_with fail
 go_loopw [8] (λ i wr=>∃ k:Nat,k<=n/\i=.int .i64 k/\(∀ j,j<k->p j=false)/\I k wr)
  (λ i _=>n-(intOf i).toNat)
 case atStart=>exact⟨0,Nat.zero_le _,rfl,λ j hj=>by omega,h0⟩
 case round =>
  obtain⟨k,hk,rfl,hall,hi⟩:=hrel;have R:=hr k _ hi
  by_cases hlt:k<n
  ·obtain⟨x,hx⟩:∃ x,xs[k]?=some x:=⟨_,List.getElem?_eq_getElem (by rw [R.len];exact hlt)⟩
   have hxz:=h1 x (List.mem_of_getElem? hx);obtain⟨b,o,rfl,hb,hc⟩:=R.cells k x hx;haveI:ZJ b (o+k*2) x.toArray 2 wr:=⟨by simpa using hxz,hb,λ j v e=>hc j v (by simpa using e)⟩
   have c:=hf k x _ hx hi;clear hf hr hc hx;have Hall:=Lib.hid hall;clear hall;cases hp:p k
   all_goals
    rw [hp]at c;have Hp:=Lib.hid hp;clear hp;go_wp2_with((with_reducible apply Za);(·exact rfl);(·exact ii));refine c.mono ?_;rintro _ w' ⟨rfl,hj⟩;dsimp only;go_wp2_with fail
   ·exact⟨⟨k+1,hlt,by go_num,λ j hj=>by rcases Nat.lt_succ_iff_lt_or_eq.1 hj with h|rfl;exact Hall.out j h;exact Hp.out,hj⟩,by simp [intOf];omega⟩
   ·go_ret;exact⟨k,by simp [zX,hlt],hk,Hall.out,λ _=>Hp.out,by simpa [hlt]using hj⟩
  ·obtain rfl:n=k:=by omega
   clear hf hr;have Hall:=Lib.hid hall;clear hall;go_wp2_with fail;go_ret;exact⟨n,by simp [zX],Nat.le_refl _,Hall.out,λ h=>absurd h (Nat.lt_irrefl _),by simpa using hi⟩
theorem ZoB(ad:Option Addr)(n cap:Nat)(xs:List (List Value))(W:World)[r:Zy 2 ad n cap xs W](hn:n<=1000000)(f:FuncId)(q:XB Tryz.prog f=true)(cp:Array Value)(p:List Value->Bool)
  (hf:∀ x∈xs,∀ g,Calls Tryz.prog f (#[.agg x.toArray]++cp) (gr W g) (ZM (.bool (p x)) (gr W g))) (h1:∀ x∈xs,x.length=2) :
  Fn 213 #[.slice ad n cap,.func (.func f) #[] cp] W (.int .i64 (KJ p xs)):=by
 refine⟨(ZoS ad n cap xs W hn f q cp (λ k=>p xs[k]!) (λ _ w=>∃ g,w=gr W g) (Y1 W) (λ k w ⟨g,e⟩=>e▸ii) (λ k x w hx ⟨g,e⟩=>?_) h1).mono ?_⟩
 ·subst e;refine(hf _ (List.mem_of_getElem? hx) g).mono λ e w' ⟨a,b⟩=>⟨?_,?_⟩
  ·rw [a];try simp [List.getElem!_eq_getElem?_getD,hx]
  ·obtain⟨g',rfl⟩:=Zf b;exact⟨_,ZW ..⟩
 ·rintro _ w' ⟨k,rfl,hk,a,b,g,rfl⟩;exact⟨by rw [zI r.len hk a b],Yb _ _⟩
set_option maxRecDepth 512 in
theorem cfR(ad:Option Addr)(n cap:Nat)(xs:List (List Value))(W:World)[r:Zy 2 ad n cap xs W](hn:n<=1000000)(f:FuncId)(q:XB Tryz.prog f=true)(cp:Array Value)(p:List Value->Bool)
  (hf:∀ x∈xs,∀ g,Calls Tryz.prog f (#[.agg x.toArray]++cp) (gr W g) (ZM (.bool (p x)) (gr W g))) (h1:∀ x∈xs,x.length=2) :
  Fn 150 #[.slice ad n cap,.func (.func f) #[] cp] W (.bool (xs.any p)):=by
 refine⟨?_⟩;have e:=Lib.hid (ji p xs);haveI:=ZoB ad n cap xs W hn f q cp p hf h1;clear hf;generalize KJ p xs=i at *
 generalize xs.any p=b at *
 go_in
 go_wp2_with(with_reducible refine Fn.go λ g=>?_);go_ret;exact ZM.mk (congrArg Value.bool (by rw [<-e.out])) grown
instance ZqV:XF 125 15:=⟨λ W b o cs _=>ZS W b o 15 cs _ _ Tryz.underlying125 rfl (by kernel_rfl)⟩
theorem Zo7(ad:Option Addr)(n cap:Nat)(xs:List (List Value))(W:World)(hn:n<=1000000)(f:FuncId)(q:XB Tryz.prog f=true)(cp:Array Value)(p:Nat->Bool)(I:Nat->World->Prop)(h0:I 0 W)
  (hr:∀ k w,I k w->Zy 15 ad n cap xs w) (hf:∀ k x w,xs[k]?=some x->I k w->Calls Tryz.prog f (#[.agg x.toArray]++cp) w λ e w'=>e=.returned (.bool (p k))/\I (k+1) w') (h1:∀ x∈xs,x.length=15) :
  Calls Tryz.prog 166 #[.slice ad n cap,.func (.func f) #[] cp] W λ e w'=>∃ k,e=.returned (zX n k)/\k<=n/\(∀ j,j<k->p j=false)/\(k<n->p k=true)/\I (if k<n then k+1 else n) w':=by
 have hrun:=λ args w=>Z9 (P:=Tryz.prog) q args w
 go_in
 go_wp2_with fail
 go_loopw [8] (λ i wr=>∃ k:Nat,k<=n/\i=.int .i64 k/\(∀ j,j<k->p j=false)/\I k wr)
  (λ i _=>n-(intOf i).toNat)
 case atStart=>exact⟨0,Nat.zero_le _,rfl,λ j hj=>by omega,h0⟩
 case round =>
  obtain⟨k,hk,rfl,hall,hi⟩:=hrel;have R:=hr k _ hi
  by_cases hlt:k<n
  ·obtain⟨x,hx⟩:∃ x,xs[k]?=some x:=⟨_,List.getElem?_eq_getElem (by rw [R.len];exact hlt)⟩
   have hxz:=h1 x (List.mem_of_getElem? hx);obtain⟨b,o,rfl,hb,hc⟩:=R.cells k x hx;haveI:ZJ b (o+k*15) x.toArray 15 wr:=⟨by simpa using hxz,hb,λ j v e=>hc j v (by simpa using e)⟩
   have c:=hf k x _ hx hi;clear hf hr hc hx;have Hall:=Lib.hid hall;clear hall;cases hp:p k
   all_goals
    rw [hp]at c;have Hp:=Lib.hid hp;clear hp;go_wp2_with((with_reducible apply Za);(·exact rfl);(·exact ii));refine c.mono ?_;rintro _ w' ⟨rfl,hj⟩;dsimp only;go_wp2_with fail
   ·exact⟨⟨k+1,hlt,by go_num,λ j hj=>by rcases Nat.lt_succ_iff_lt_or_eq.1 hj with h|rfl;exact Hall.out j h;exact Hp.out,hj⟩,by simp [intOf];omega⟩
   ·go_ret;exact⟨k,by simp [zX,hlt],hk,Hall.out,λ _=>Hp.out,by simpa [hlt]using hj⟩
  ·obtain rfl:n=k:=by omega
   clear hf hr;have Hall:=Lib.hid hall;clear hall;go_wp2_with fail;go_ret;exact⟨n,by simp [zX],Nat.le_refl _,Hall.out,λ h=>absurd h (Nat.lt_irrefl _),by simpa using hi⟩
theorem ZmL(ad:Option Addr)(n cap:Nat)(xs:List (List Value))(W:World)[r:Zy 15 ad n cap xs W](hn:n<=1000000)(f:FuncId)(q:XB Tryz.prog f=true)(cp:Array Value)(p:List Value->Bool)
  (hf:∀ x∈xs,∀ g,Calls Tryz.prog f (#[.agg x.toArray]++cp) (gr W g) (ZM (.bool (p x)) (gr W g))) (h1:∀ x∈xs,x.length=15) :
  Fn 166 #[.slice ad n cap,.func (.func f) #[] cp] W (.int .i64 (KJ p xs)):=by
 refine⟨(Zo7 ad n cap xs W hn f q cp (λ k=>p xs[k]!) (λ _ w=>∃ g,w=gr W g) (Y1 W) (λ k w ⟨g,e⟩=>e▸ii) (λ k x w hx ⟨g,e⟩=>?_) h1).mono ?_⟩
 ·subst e;refine(hf _ (List.mem_of_getElem? hx) g).mono λ e w' ⟨a,b⟩=>⟨?_,?_⟩
  ·rw [a];try simp [List.getElem!_eq_getElem?_getD,hx]
  ·obtain⟨g',rfl⟩:=Zf b;exact⟨_,ZW ..⟩
 ·rintro _ w' ⟨k,rfl,hk,a,b,g,rfl⟩;exact⟨by rw [zI r.len hk a b],Yb _ _⟩
set_option maxRecDepth 512 in
theorem cfN(ad:Option Addr)(n cap:Nat)(xs:List (List Value))(W:World)[r:Zy 15 ad n cap xs W](hn:n<=1000000)(f:FuncId)(q:XB Tryz.prog f=true)(cp:Array Value)(p:List Value->Bool)
  (hf:∀ x∈xs,∀ g,Calls Tryz.prog f (#[.agg x.toArray]++cp) (gr W g) (ZM (.bool (p x)) (gr W g))) (h1:∀ x∈xs,x.length=15) :
  Fn 210 #[.slice ad n cap,.func (.func f) #[] cp] W (.bool (xs.any p)):=by
 refine⟨?_⟩;have e:=Lib.hid (ji p xs);haveI:=ZmL ad n cap xs W hn f q cp p hf h1;clear hf;generalize KJ p xs=i at *
 generalize xs.any p=b at *
 go_in
 go_wp2_with(with_reducible refine Fn.go λ g=>?_);go_ret;exact ZM.mk (congrArg Value.bool (by rw [<-e.out])) grown
theorem ZmW(ad:Option Addr)(n cap:Nat)(xs:List (List Value))(W:World)(hn:n<=1000000)(f:FuncId)(q:XB Tryz.prog f=true)(cp:Array Value)(p:Nat->Bool)(I:Nat->World->Prop)(h0:I 0 W)
  (hr:∀ k w,I k w->Zy 12 ad n cap xs w) (hf:∀ k x w,xs[k]?=some x->I k w->Calls Tryz.prog f (#[.agg x.toArray]++cp) w λ e w'=>e=.returned (.bool (p k))/\I (k+1) w') (h1:∀ x∈xs,x.length=12) :
  Calls Tryz.prog 222 #[.slice ad n cap,.func (.func f) #[] cp] W λ e w'=>∃ k,e=.returned (zX n k)/\k<=n/\(∀ j,j<k->p j=false)/\(k<n->p k=true)/\I (if k<n then k+1 else n) w':=by
 have hrun:=λ args w=>Z9 (P:=Tryz.prog) q args w
 go_in
 go_wp2_with fail
 go_loopw [8] (λ i wr=>∃ k:Nat,k<=n/\i=.int .i64 k/\(∀ j,j<k->p j=false)/\I k wr)
  (λ i _=>n-(intOf i).toNat)
 case atStart=>exact⟨0,Nat.zero_le _,rfl,λ j hj=>by omega,h0⟩
 case round =>
  obtain⟨k,hk,rfl,hall,hi⟩:=hrel;have R:=hr k _ hi
  by_cases hlt:k<n
  ·obtain⟨x,hx⟩:∃ x,xs[k]?=some x:=⟨_,List.getElem?_eq_getElem (by rw [R.len];exact hlt)⟩
   have hxz:=h1 x (List.mem_of_getElem? hx);obtain⟨b,o,rfl,hb,hc⟩:=R.cells k x hx;haveI:ZJ b (o+k*12) x.toArray 12 wr:=⟨by simpa using hxz,hb,λ j v e=>hc j v (by simpa using e)⟩
   have c:=hf k x _ hx hi;clear hf hr hc hx;have Hall:=Lib.hid hall;clear hall;cases hp:p k
   all_goals
    rw [hp]at c;have Hp:=Lib.hid hp;clear hp;go_wp2_with((with_reducible apply Za);(·exact rfl);(·exact ii));refine c.mono ?_;rintro _ w' ⟨rfl,hj⟩;dsimp only;go_wp2_with fail
   ·exact⟨⟨k+1,hlt,by go_num,λ j hj=>by rcases Nat.lt_succ_iff_lt_or_eq.1 hj with h|rfl;exact Hall.out j h;exact Hp.out,hj⟩,by simp [intOf];omega⟩
   ·go_ret;exact⟨k,by simp [zX,hlt],hk,Hall.out,λ _=>Hp.out,by simpa [hlt]using hj⟩
  ·obtain rfl:n=k:=by omega
   clear hf hr;have Hall:=Lib.hid hall;clear hall;go_wp2_with fail;go_ret;exact⟨n,by simp [zX],Nat.le_refl _,Hall.out,λ h=>absurd h (Nat.lt_irrefl _),by simpa using hi⟩
instance Zrg:XF 207 2:=⟨λ W b o cs _=>ZS W b o 2 cs _ _ Tryz.underlying207 rfl (by kernel_rfl)⟩
theorem ZoR(ad:Option Addr)(n cap:Nat)(xs:List (List Value))(W:World)(hn:n<=1000000)(f:FuncId)(q:XB Tryz.prog f=true)(cp:Array Value)(p:Nat->Bool)(I:Nat->World->Prop)(h0:I 0 W)
  (hr:∀ k w,I k w->Zy 2 ad n cap xs w) (hf:∀ k x w,xs[k]?=some x->I k w->Calls Tryz.prog f (#[.agg x.toArray]++cp) w λ e w'=>e=.returned (.bool (p k))/\I (k+1) w') (h1:∀ x∈xs,x.length=2) :
  Calls Tryz.prog 229 #[.slice ad n cap,.func (.func f) #[] cp] W λ e w'=>∃ k,e=.returned (zX n k)/\k<=n/\(∀ j,j<k->p j=false)/\(k<n->p k=true)/\I (if k<n then k+1 else n) w':=by
 have hrun:=λ args w=>Z9 (P:=Tryz.prog) q args w
 go_in
 go_wp2_with fail
 go_loopw [8] (λ i wr=>∃ k:Nat,k<=n/\i=.int .i64 k/\(∀ j,j<k->p j=false)/\I k wr)
  (λ i _=>n-(intOf i).toNat)
 case atStart=>exact⟨0,Nat.zero_le _,rfl,λ j hj=>by omega,h0⟩
 case round =>
  obtain⟨k,hk,rfl,hall,hi⟩:=hrel;have R:=hr k _ hi
  by_cases hlt:k<n
  ·obtain⟨x,hx⟩:∃ x,xs[k]?=some x:=⟨_,List.getElem?_eq_getElem (by rw [R.len];exact hlt)⟩
   have hxz:=h1 x (List.mem_of_getElem? hx);obtain⟨b,o,rfl,hb,hc⟩:=R.cells k x hx;haveI:ZJ b (o+k*2) x.toArray 2 wr:=⟨by simpa using hxz,hb,λ j v e=>hc j v (by simpa using e)⟩
   have c:=hf k x _ hx hi;clear hf hr hc hx;have Hall:=Lib.hid hall;clear hall;cases hp:p k
   all_goals
    rw [hp]at c;have Hp:=Lib.hid hp;clear hp;go_wp2_with((with_reducible apply Za);(·exact rfl);(·exact ii));refine c.mono ?_;rintro _ w' ⟨rfl,hj⟩;dsimp only;go_wp2_with fail
   ·exact⟨⟨k+1,hlt,by go_num,λ j hj=>by rcases Nat.lt_succ_iff_lt_or_eq.1 hj with h|rfl;exact Hall.out j h;exact Hp.out,hj⟩,by simp [intOf];omega⟩
   ·go_ret;exact⟨k,by simp [zX,hlt],hk,Hall.out,λ _=>Hp.out,by simpa [hlt]using hj⟩
  ·obtain rfl:n=k:=by omega
   clear hf hr;have Hall:=Lib.hid hall;clear hall;go_wp2_with fail;go_ret;exact⟨n,by simp [zX],Nat.le_refl _,Hall.out,λ h=>absurd h (Nat.lt_irrefl _),by simpa using hi⟩
theorem ZoP(ad:Option Addr)(n cap:Nat)(xs:List (List Value))(W:World)[r:Zy 2 ad n cap xs W](hn:n<=1000000)(f:FuncId)(q:XB Tryz.prog f=true)(cp:Array Value)(p:List Value->Bool)
  (hf:∀ x∈xs,∀ g,Calls Tryz.prog f (#[.agg x.toArray]++cp) (gr W g) (ZM (.bool (p x)) (gr W g))) (h1:∀ x∈xs,x.length=2) :
  Fn 229 #[.slice ad n cap,.func (.func f) #[] cp] W (.int .i64 (KJ p xs)):=by
 refine⟨(ZoR ad n cap xs W hn f q cp (λ k=>p xs[k]!) (λ _ w=>∃ g,w=gr W g) (Y1 W) (λ k w ⟨g,e⟩=>e▸ii) (λ k x w hx ⟨g,e⟩=>?_) h1).mono ?_⟩
 ·subst e;refine(hf _ (List.mem_of_getElem? hx) g).mono λ e w' ⟨a,b⟩=>⟨?_,?_⟩
  ·rw [a];try simp [List.getElem!_eq_getElem?_getD,hx]
  ·obtain⟨g',rfl⟩:=Zf b;exact⟨_,ZW ..⟩
 ·rintro _ w' ⟨k,rfl,hk,a,b,g,rfl⟩;exact⟨by rw [zI r.len hk a b],Yb _ _⟩
instance ZrM:XF 370 4:=⟨λ W b o cs _=>ZS W b o 4 cs _ _ Tryz.underlying370 rfl (by kernel_rfl)⟩
theorem ZoK(ad:Option Addr)(n cap:Nat)(xs:List (List Value))(W:World)(hn:n<=1000000)(f:FuncId)(q:XB Tryz.prog f=true)(cp:Array Value)(p:Nat->Bool)(I:Nat->World->Prop)(h0:I 0 W)
  (hr:∀ k w,I k w->Zy 4 ad n cap xs w) (hf:∀ k x w,xs[k]?=some x->I k w->Calls Tryz.prog f (#[.agg x.toArray]++cp) w λ e w'=>e=.returned (.bool (p k))/\I (k+1) w') (h1:∀ x∈xs,x.length=4) :
  Calls Tryz.prog 363 #[.slice ad n cap,.func (.func f) #[] cp] W λ e w'=>∃ k,e=.returned (zX n k)/\k<=n/\(∀ j,j<k->p j=false)/\(k<n->p k=true)/\I (if k<n then k+1 else n) w':=by
 have hrun:=λ args w=>Z9 (P:=Tryz.prog) q args w
 go_in
 go_wp2_with fail
 go_loopw [8] (λ i wr=>∃ k:Nat,k<=n/\i=.int .i64 k/\(∀ j,j<k->p j=false)/\I k wr)
  (λ i _=>n-(intOf i).toNat)
 case atStart=>exact⟨0,Nat.zero_le _,rfl,λ j hj=>by omega,h0⟩
 case round =>
  obtain⟨k,hk,rfl,hall,hi⟩:=hrel;have R:=hr k _ hi
  by_cases hlt:k<n
  ·obtain⟨x,hx⟩:∃ x,xs[k]?=some x:=⟨_,List.getElem?_eq_getElem (by rw [R.len];exact hlt)⟩
   have hxz:=h1 x (List.mem_of_getElem? hx);obtain⟨b,o,rfl,hb,hc⟩:=R.cells k x hx;haveI:ZJ b (o+k*4) x.toArray 4 wr:=⟨by simpa using hxz,hb,λ j v e=>hc j v (by simpa using e)⟩
   have c:=hf k x _ hx hi;clear hf hr hc hx;have Hall:=Lib.hid hall;clear hall;cases hp:p k
   all_goals
    rw [hp]at c;have Hp:=Lib.hid hp;clear hp;go_wp2_with((with_reducible apply Za);(·exact rfl);(·exact ii));refine c.mono ?_;rintro _ w' ⟨rfl,hj⟩;dsimp only;go_wp2_with fail
   ·exact⟨⟨k+1,hlt,by go_num,λ j hj=>by rcases Nat.lt_succ_iff_lt_or_eq.1 hj with h|rfl;exact Hall.out j h;exact Hp.out,hj⟩,by simp [intOf];omega⟩
   ·go_ret;exact⟨k,by simp [zX,hlt],hk,Hall.out,λ _=>Hp.out,by simpa [hlt]using hj⟩
  ·obtain rfl:n=k:=by omega
   clear hf hr;have Hall:=Lib.hid hall;clear hall;go_wp2_with fail;go_ret;exact⟨n,by simp [zX],Nat.le_refl _,Hall.out,λ h=>absurd h (Nat.lt_irrefl _),by simpa using hi⟩
instance ZrL:XF 45 2:=⟨λ W b o cs _=>ZS W b o 2 cs _ _ Tryz.underlying45 rfl (by kernel_rfl)⟩
theorem Zow(ad:Option Addr)(n cap:Nat)(xs:List (List Value))(W:World)(hn:n<=1000000)(f:FuncId)(q:XB Tryz.prog f=true)(cp:Array Value)(p:Nat->Bool)(I:Nat->World->Prop)(h0:I 0 W)
  (hr:∀ k w,I k w->Zy 2 ad n cap xs w) (hf:∀ k x w,xs[k]?=some x->I k w->Calls Tryz.prog f (#[.agg x.toArray]++cp) w λ e w'=>e=.returned (.bool (p k))/\I (k+1) w') (h1:∀ x∈xs,x.length=2) :
  Calls Tryz.prog 330 #[.slice ad n cap,.func (.func f) #[] cp] W λ e w'=>∃ k,e=.returned (zX n k)/\k<=n/\(∀ j,j<k->p j=false)/\(k<n->p k=true)/\I (if k<n then k+1 else n) w':=by
 have hrun:=λ args w=>Z9 (P:=Tryz.prog) q args w
 go_in
 go_wp2_with fail
 go_loopw [8] (λ i wr=>∃ k:Nat,k<=n/\i=.int .i64 k/\(∀ j,j<k->p j=false)/\I k wr)
  (λ i _=>n-(intOf i).toNat)
 case atStart=>exact⟨0,Nat.zero_le _,rfl,λ j hj=>by omega,h0⟩
 case round =>
  obtain⟨k,hk,rfl,hall,hi⟩:=hrel;have R:=hr k _ hi
  by_cases hlt:k<n
  ·obtain⟨x,hx⟩:∃ x,xs[k]?=some x:=⟨_,List.getElem?_eq_getElem (by rw [R.len];exact hlt)⟩
   have hxz:=h1 x (List.mem_of_getElem? hx);obtain⟨b,o,rfl,hb,hc⟩:=R.cells k x hx;haveI:ZJ b (o+k*2) x.toArray 2 wr:=⟨by simpa using hxz,hb,λ j v e=>hc j v (by simpa using e)⟩
   have c:=hf k x _ hx hi;clear hf hr hc hx;have Hall:=Lib.hid hall;clear hall;cases hp:p k
   all_goals
    rw [hp]at c;have Hp:=Lib.hid hp;clear hp;go_wp2_with((with_reducible apply Za);(·exact rfl);(·exact ii));refine c.mono ?_;rintro _ w' ⟨rfl,hj⟩;dsimp only;go_wp2_with fail
   ·exact⟨⟨k+1,hlt,by go_num,λ j hj=>by rcases Nat.lt_succ_iff_lt_or_eq.1 hj with h|rfl;exact Hall.out j h;exact Hp.out,hj⟩,by simp [intOf];omega⟩
   ·go_ret;exact⟨k,by simp [zX,hlt],hk,Hall.out,λ _=>Hp.out,by simpa [hlt]using hj⟩
  ·obtain rfl:n=k:=by omega
   clear hf hr;have Hall:=Lib.hid hall;clear hall;go_wp2_with fail;go_ret;exact⟨n,by simp [zX],Nat.le_refl _,Hall.out,λ h=>absurd h (Nat.lt_irrefl _),by simpa using hi⟩
end Go.Proofs.YtlfjdjndhcmliaaGreatDoor
