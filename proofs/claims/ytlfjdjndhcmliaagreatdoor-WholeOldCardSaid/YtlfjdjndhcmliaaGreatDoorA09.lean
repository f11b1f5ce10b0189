/- WholeOld, part 9. -/
import Derived.Test.YtlfjdjndhcmliaaGreatDoorA06
import Derived.Test.YtlfjdjndhcmliaaGreatDoorA07
import Derived.Test.YtlfjdjndhcmliaaGreatDoorA04
import Derived.Laws.CopyRow
import Derived.Test.YtlfjdjndhcmliaaGreatDoorA08
import Derived.Test.YtlfjdjndhcmliaaGreatDoorA05
import Derived.Lib.OwnBridge
set_option maxRecDepth 100000
set_option maxHeartbeats 4000000
set_option linter.all false
namespace Go.Proofs.YtlfjdjndhcmliaaGreatDoor
open Go.RowKit Go.Sort
theorem Zg.after{W w1 w2:World}{h h1:Hl}{Q:Hl->Prop}(m:Xz h W w1)(x:∀ n,n<W.heap.size->h n=none->h1 n=none)(t:Zg w1 h1 Q w2):Zg W h Q w2:=by
 obtain⟨m2,h2,i2,x2,p2⟩:=t;exact⟨m.trans m2 x,h2,i2,λ n hn e=>x2 n (Nat.lt_of_lt_of_le hn m.size) (x n hn e),p2⟩
def YC(t:TypeId)(z g cap:Nat)(L:List (List Value)):SP:=λ h=>∃ cur,h g=some (.cells cur t)/\cur.size=cap*z/\cur.toList.take (L.length*z)=L.flatten/\(∀ x∈L,x.length=z)/\L.length<=cap
theorem Yy{z:Nat}:∀ {L:List (List Value)},(∀ x∈L,x.length=z)->L.flatten.length=L.length*z
 | [],_=>by simp
 |x::L,h=>by
  rw [List.flatten_cons,List.length_append,h x (by simp),Yy λ y hy=>h y (by simp [hy]),List.length_cons,Nat.add_mul];omega
theorem YC.rd{t:TypeId}{z g cap c n:Nat}{L:List (List Value)}{h:Hl}(r:YC t z g cap L h)(hn:L.length=n)(W:World)[Has W h]:Zy z (some ⟨g,0,none⟩) n c L W:=by
 obtain⟨cur,h1,h2,h3,h4,h5⟩:=r;refine⟨hn,λ k x hx=>⟨g,0,rfl,Has.old h1,λ j v hj=>?_⟩⟩;have hk:=(List.getElem?_eq_some_iff.1 hx).1;have hjz:j<z:=by rw [<-h4 x (List.mem_of_getElem? hx)];exact(List.getElem?_eq_some_iff.1 hj).1
 rw [Has.cell h1,Nat.zero_add];have e:=QM L z k j x h4 hx hjz
 rw [<-h3,List.getElem?_take,if_pos (by
  have:=Nat.mul_le_mul_right z (show k+1<=L.length from hk)
  rw [Nat.add_mul]at this;omega)]at e
 rw [<-hj,<- e];simp
theorem YC.sto{t:TypeId}{z g cap:Nat}{L vs:List (List Value)}{h:Hl}(r:YC t z g cap L h){i:Nat}(hi:i+vs.length<=L.length)(hv:∀ x∈vs,x.length=z)(h1:∀ x∈vs,∀ v∈x,v.oneCell'=true)(W:World)[hw:Has W h] :
  ∃ X,(storeCells ⟨g,i*z,none⟩ vs.flatten).run Tryz.prog W=.ok () (W.setRow g X)/\Zg W h (YC t z g cap (L.take i++vs++L.drop (i+vs.length))) (W.setRow g X):=by
 obtain⟨cur,b1,b2,b3,b4,b5⟩:=r;have hg:=hw.get _ _ b1;have hvl:=Yy hv
 have hle:i*z+vs.flatten.length<=cur.size:=by
  have:=Nat.mul_le_mul_right z (show i+vs.length<=cap by omega);rw [Nat.add_mul]at this;rw [hvl,b2];omega
 have hs:=run_storeCells_at Tryz.prog g (i*z) t vs.flatten 0 cur W hg (by omega) (λ v hv=>by
  obtain⟨x,hx,hvx⟩:=List.mem_flatten.1 hv
  exact h1 x hx v hvx)
 refine⟨_,hs,?_⟩;generalize hX:(cur.toList.take (i*z+0)++vs.flatten++cur.toList.drop (i*z+0+vs.flatten.length)).toArray=X
 have hXs:X.size=cur.size:=by
  rw [<-hX,List.size_toArray,List.length_append,List.length_append,List.length_take,List.length_drop,Array.length_toList];omega
 refine Zg.mk (h.put g (.cells X t)) ⟨rfl,rfl,rfl,by rw [setRow_size];exact Nat.le_refl _,λ k hk e=>?_⟩ ⟨λ m o e=>?_⟩ (λ n hn e=>?_) ⟨X,Hl.put_same ..,by rw [hXs,b2],?_,λ x hx=>?_,by simp;omega⟩
 ·exact setRow_other W g k X (λ e2=>by rw [e2,b1]at e;cases e)
 ·by_cases hm:m=g
  ·subst hm;rw [Hl.put_same]at e;cases e;exact setRow_heap W m cur X t (0,0) hg
  ·rw [Hl.put_other _ _ hm]at e;rw [setRow_other W g m X hm];exact hw.get m o e
 ·by_cases hm:n=g
  ·subst hm;rw [b1]at e;cases e
  ·rw [Hl.put_other _ _ hm];exact e
 ·have hlen:(L.take i++vs++L.drop (i+vs.length)).length=L.length:=by simp;omega
  rw [hlen,<- hX,List.flatten_append,List.flatten_append]
  have e1:(L.take i).flatten=cur.toList.take (i*z):=by
   have h2:L.flatten=(L.take i).flatten++(L.drop i).flatten:=by rw [<-List.flatten_append,List.take_append_drop]
   have h3:(L.take i).flatten.length=i*z:=by rw [Yy λ x hx=>b4 x (List.mem_of_mem_take hx),List.length_take,Nat.min_eq_left (by omega)]
   have h4:(cur.toList.take (L.length*z)).take (i*z)=cur.toList.take (i*z):=by
    rw [List.take_take,Nat.min_eq_left (Nat.mul_le_mul_right z (by omega))]
   rw [<-h4,b3,h2,<- h3,List.take_left'];rfl
  have e2:(L.drop (i+vs.length)).flatten=(cur.toList.drop ((i+vs.length)*z)).take ((L.length-(i+vs.length))*z):=by
   have h2:L.flatten=(L.take (i+vs.length)).flatten++(L.drop (i+vs.length)).flatten:=by rw [<-List.flatten_append,List.take_append_drop]
   have h3:(L.take (i+vs.length)).flatten.length=(i+vs.length)*z:=by rw [Yy λ x hx=>b4 x (List.mem_of_mem_take hx),List.length_take,Nat.min_eq_left (by omega)]
   have h4:(L.drop (i+vs.length)).flatten=L.flatten.drop ((i+vs.length)*z):=by rw [h2,<- h3,List.drop_left]
   rw [h4,<- b3,List.drop_take,Nat.sub_mul]
  rw [e1,e2,hvl];simp only [Nat.add_zero,List.toList_toArray];have l1:(cur.toList.take (i*z)).length=i*z:=by simp;have:=Nat.mul_le_mul_right z (show i<=cap by omega);omega
  have l2:(cur.toList.take (i*z)++vs.flatten).length=(i+vs.length)*z:=by rw [List.length_append,l1,hvl,Nat.add_mul]
  rw [<-Nat.add_mul,List.take_append,l2,List.take_of_length_le (by rw [l2];exact Nat.mul_le_mul_right z hi),Nat.sub_mul]
 ·rcases List.mem_append.1 hx with hx|hx
  ·rcases List.mem_append.1 hx with hx|hx
   ·exact b4 x (List.mem_of_mem_take hx)
   ·exact hv x hx
  ·exact b4 x (List.mem_of_mem_drop hx)
theorem YC.set{t:TypeId}{z g cap:Nat}{L:List (List Value)}{h:Hl}(r:YC t z g cap L h){i:Nat}(hi:i<L.length)(v:List Value)(hv:v.length=z)(h1:∀ u∈v,u.oneCell'=true)(W:World)[hw:Has W h] :
  ∃ X,(storeCells ⟨g,i*z,none⟩ v).run Tryz.prog W=.ok () (W.setRow g X)/\Zg W h (YC t z g cap (L.set i v)) (W.setRow g X):=by
 have:=r.sto (vs:=[v]) (i:=i) hi (by simpa using hv) (by simpa using h1) W;have e:L.take i++[v]++L.drop (i+1)=L.set i v:=by rw [List.set_eq_take_append_cons_drop,if_pos hi];simp
 rw [List.flatten_singleton,List.length_singleton,e]at this;exact this
theorem Jb{t:TypeId}{b o z:Nat}{v:List Value}{W W':World}(hz:(Tryz.prog.info? t).map (·.size)=some z)(hv:v.length=z)(hr:(storeCells ⟨b,o,none⟩ v).run Tryz.prog W=.ok () W'):KA t b o v.toArray W W':=by
 refine⟨?_⟩;cases hq:Tryz.prog.info? t with
 |none=>simp [hq]at hz
 |some i =>
  have hz:i.size=v.length:=by rw [hq]at hz;rw [hv];simpa using hz
  simp [Instr.storeAt,storeVar,Instr.sureAddr,sizeOf,typeInfo,hq,Value.cells,hz,hr]
theorem VZ{t t':TypeId}{z:Nat}{v:List Value}{zs:Array Value}(hz:(Tryz.prog.info? t).map (·.size)=some z)(hv:v.length=z)(h1:∀ u∈v,u.oneCell'=true)(hzs:zs.size=z)(W:World):KA t W.heap.size 0 v.toArray (W.alloc (.cells zs t')) (W.alloc (.cells v.toArray t')):=by
 refine Jb hz hv ?_;have hs:=run_storeCells_at Tryz.prog W.heap.size 0 t' v 0 zs (W.alloc (.cells zs t')) (alloc_heap_new _ _) (by omega) h1;rw [hs];simp only [Nat.zero_add,List.take_zero,List.nil_append];rw [List.drop_eq_nil_of_le (by rw [Array.length_toList];omega),List.append_nil,Zee]
theorem Vn{t':TypeId}{z:Nat}{v:List Value}(hv:v.length=z)(W:World):ZJ W.heap.size 0 v.toArray z (W.alloc (.cells v.toArray t')) :=
 Kc (by simpa using hv) λ j u e=>by simpa using e
theorem Zaa{l:List SP}{k:Nat}{t:TypeId}{z g cap:Nat}{L:List (List Value)}{h:Hl}(s:star l h)(e:l[k]?=some (YC t z g cap L)){i:Nat}(hi:i<L.length)(v:List Value)(hv:v.length=z)(h1:∀ u∈v,u.oneCell'=true)(W:World)[hw:Has W h] :
  ∃ W',(storeCells ⟨g,i*z,none⟩ v).run Tryz.prog W=.ok () W'/\Zg W h (star (l.set k (YC t z g cap (L.set i v)))) W':=by
 obtain⟨h0,r,sb,_⟩:=s.focus e;haveI:=hw.sub sb;obtain⟨X,hr,_⟩:=r.set hi v hv h1 W;refine⟨_,hr,Zg.focus hw s e λ h0 r i=>?_⟩;obtain⟨X',hr',t⟩:=r.set hi v hv h1 W;rw [hr]at hr';injection hr' with _ e;rw [e];exact t
theorem Zfg(c:List Value)(hc:0<c.length)(n:Nat):(Builtin.zeroCells c.toArray n).toList=(List.replicate n c).flatten:=by
 apply List.ext_getElem?;intro j;have hl:(List.replicate n c).flatten.length=n*c.length:=by simp
 by_cases hj:j<n*c.length
 ·have hq:j/c.length<n:=Nat.div_lt_of_lt_mul (by rw [Nat.mul_comm];exact hj);have hm:j%c.length<c.length:=Nat.mod_lt _ hc;have e:j=j/c.length*c.length+j%c.length:=by rw [Nat.mul_comm];exact(Nat.div_add_mod ..).symm
  have h2:=QM (List.replicate n c) c.length (j/c.length) (j%c.length) c (by simp) (by simp [hq]) hm;rw [<-e]at h2;rw [h2];simp [Builtin.zeroCells,hj,hm]
 ·rw [List.getElem?_eq_none (by simp [Builtin.zeroCells];omega),List.getElem?_eq_none (by rw [hl];omega)]
theorem zD{l:List SP}{k:Nat}{t ts:TypeId}{z g cap:Nat}{L:List (List Value)}{h:Hl}(s:star l h)(e:l[k]?=some (YC t z g cap L)){i c:Nat}(hi:i<=L.length)(zr:Value)(ht:Tryz.prog.underlying ts=some (.slice t))(hzr:∀ w,(zeroValue t).run Tryz.prog w=.ok zr w)(hv:zr.cells.toList.length=z)(h0:0<z)(h1:∀ u∈zr.cells.toList,u.oneCell'=true)(W:World)[hw:Has W h] :
  ∃ W',(∀ ty,(Builtin.clear_ #[ts] ty #[.slice (some ⟨g,i*z,none⟩) (L.length-i) c]).run Tryz.prog W=.ok (.tuple #[]) W')/\Zg W h (star (l.set k (YC t z g cap (L.take i++List.replicate (L.length-i) zr.cells.toList)))) W':=by
 obtain⟨h0',r,sb,_⟩:=s.focus e;haveI:=hw.sub sb;have hvs:i+(List.replicate (L.length-i) zr.cells.toList).length<=L.length:=by simp;omega
 obtain⟨X,hr,_⟩:=r.sto (vs:=List.replicate (L.length-i) zr.cells.toList) hvs (by simp;intro _;simpa using hv) (by intro x hx;rw [List.eq_of_mem_replicate hx];exact h1) W;have hd:L.drop (i+(List.replicate (L.length-i) zr.cells.toList).length)=[]:=by simp;omega
 by_cases hn:L.length-i=0
 ·refine⟨W,by intro ty;simp [Builtin.clear_,hn,run_underlying ht],Zg.same hw ?_⟩;have e2:i=L.length:=by omega
  rw [hn,e2,List.take_length,List.replicate_zero,List.append_nil];have:l.set k (YC t z g cap L)=l:=by rw [<-List.getElem_eq_iff (List.getElem?_eq_some_iff.1 e).1 |>.2 e];simp
  rw [this];exact s
 ·refine⟨W.setRow g X,?_,Zg.focus hw s e λ h0 r i'=>?_⟩
  ·intro ty;obtain⟨m,hm⟩:∃ m,L.length-i=m+1:=⟨L.length-i-1,by omega⟩
   rw [<-Zfg _ (by omega)]at hr;rw [hm]at hr ⊢;simp [Builtin.clear_,run_underlying ht,hzr,hr]
  ·obtain⟨X',hr',t⟩:=r.sto (vs:=List.replicate (L.length-i) zr.cells.toList) hvs (by simp;intro _;simpa using hv) (by intro x hx;rw [List.eq_of_mem_replicate hx];exact h1) W;rw [hr]at hr';injection hr' with _ e2;rw [hd,List.append_nil]at t;rw [e2];exact t
theorem ZhI(x y:Nat):((x:Int)==(y:Int))=decide (x=y):=by rw [Bool.eq_iff_iff];simp;omega
def Xd(l:List ByteArray):List Value:=l.map Value.string
theorem Xe(l:List ByteArray):(ZG l).flatten=Xd l:=by induction l<;>simp_all [ZG,Xd]
theorem ZC.rdS{ad:Option Addr}{n cap:Nat}{l:List ByteArray}{W W1:World}(h:ZC 9 1 ad n cap (Xd l) W W1):Zy 1 ad n cap (ZG l) W :=
 ZC.rd (W1:=W1) (e:=9) (by rw [Xe];exact h) (by have:=h.own.1;simpa [ZG,Xd]using this) (by simp [ZG])
theorem QB(l:List ByteArray):∀ x∈ZG l,x.length=1:=by simp [ZG]
set_option maxRecDepth 512 in
theorem Zgj(s:ByteArray)(ad:Option Addr)(n cap b:Nat)(s0:ByteArray)(l:List ByteArray)(W:World)(hb:Yc b W)(hc:W.cell? ⟨b,0,none⟩=some (.slice ad n cap))[h:Zy 1 ad n cap (ZG (s0::l)) W] :
  Calls Tryz.prog 354 #[.string s,.pointer (some ⟨b,0,none⟩)] W (ZM (.bool (decide (¬ s.size=s0.size))) W):=by
 obtain⟨b',o,rfl,hbo,hc0⟩:=h.cells 0 [.string s0] rfl;have c0:=hc0 0 _ rfl;rw [Nat.zero_mul,Nat.add_zero]at c0;have hn:0<n:=by have:=h.len;simp only [ZG,List.map_cons,List.length_cons]at this;omega
 clear hc0
 go_in
 go_wp2_with fail;go_ret;exact ZM.mk (congrArg Value.bool (by simp [bne,ZhI])) grown
theorem Zka(ad:Option Addr)(n cap:Nat)(s0:ByteArray)(l:List ByteArray)(W:World)[h:Zy 1 ad n cap (ZG (s0::l)) W](hn:n<=1000000) :
  Fn 346 #[.slice ad n cap] W (.bool (qd (s0::l))):=by
 refine⟨?_⟩
 have key:∀ W':World,Zy 1 ad n cap (ZG (s0::l)) W'->∀ b,Yc b W'->W'.cell? ⟨b,0,none⟩=some (.slice ad n cap)->Fn 353 #[.slice ad n cap,.func (.func 354) #[] #[.pointer (some ⟨b,0,none⟩)]] W' (.bool (!qd (s0::l))):=by
  intro W' hr b hb hc
  have e:(!qd (s0::l))=(ZG (s0::l)).any λ x=>match x with
   | [.string s]=>decide (¬ s.size=s0.size)
   |_=>false:=by
   unfold qd ZG;rw [List.any_map,List.not_all_eq_any_not]
   congr 1
   funext s
   simp [BEq.beq]
  rw [e];refine cfS ad n cap _ W' hn _ (by kernel_rfl) _ _ (λ v hv g=>?_) (QB _)
  obtain⟨s,_,rfl⟩:∃ s,s∈s0::l/\v=.string s:=by
   obtain⟨s,h1,h2⟩:=List.mem_map.1 hv;exact⟨s,h1,by injection h2 with h2;exact h2.symm⟩
  exact Zgj s ad n cap b s0 l _ ii (by rw [Z7];exact hc)
 go_in
 go_wp2_with fail;refine(key _ ii _ ii (by rw [Qc];rfl)).go λ g=>?_
 dsimp only;go_wp2_with fail;go_ret;exact ZM.mk (by simp) grown
set_option maxRecDepth 512 in
theorem Zjz(ad:Option Addr)(n cap:Nat)(l:List ByteArray)(W:World)[h:Zy 1 ad n cap (ZG l) W](m:Nat)(hm:m<=65536)(h0:0<n)(hn:n<=1000)(hl:∀ s∈l,s.size=m) :
  Fn 339 #[.slice ad n cap] W (.tuple #[.string (zZ l),.int .i64 0]):=by
 refine⟨?_⟩;have hlen:l.length=n:=by have:=h.len;simpa [ZG]using this
 obtain⟨s0,l',rfl⟩:∃ s0 l',l=s0::l':=by
  cases l with
  |nil=>simp at hlen;omega
  |cons a b=>exact⟨a,b,rfl⟩
 have he:qd (s0::l')=true:=by
  unfold qd;rw [List.all_eq_true];intro s hs;simp [hl s hs,hl s0 (by simp)]
 have e1:zZ (s0::l')=⟨(KF m (s0::l')).toArray⟩:=by
  unfold zZ;rw [he];simp [hl s0 (by simp)]
 rw [e1];have ev:∀ W',[Zy 1 ad n cap (ZG (s0::l')) W']->Fn 346 #[.slice ad n cap] W' (.bool true)  :=λ W' _=>he▸Zka ad n cap s0 l' W' (by omega)
 have on:∀ W',[Zy 1 ad n cap (ZG (s0::l')) W']->Fn 347 #[.slice ad n cap] W' (.string ⟨(KF m (s0::l')).toArray⟩):=λ W' _=>Zll ad n cap _ W' m hm h0 hn hl
 generalize (⟨(KF m (s0::l')).toArray⟩:ByteArray)=r at *
 generalize s0::l'=L at *
 clear he e1 hl
 go_in
 go_wp2_with(with_reducible refine Fn.go λ g=>?_);go_ret2;exact ZM.mk rfl grown
def Zha(t:ByteArray)(i:Nat):ByteArray:=t.extract (64*i) (64*i+64)
def Z6(t:ByteArray)(z:Nat):List ByteArray:=(List.range z).map (Zha t)
theorem XX(t:ByteArray)(z:Nat):(Z6 t z).length=z:=by simp [Z6]
theorem Kr(t:ByteArray)(z:Nat)(h:t.size=64*z):∀ s∈Z6 t z,s.size=64:=by
 intro s hs;obtain⟨i,hi,rfl⟩:=List.mem_map.1 hs;have hi:i<z:=by simpa using hi
 simp [Zha,ByteArray.size_extract,h];omega
theorem Zb6(t:ByteArray)(z:Nat)(ht:t.size=64*z)(hz:1<=z/\z<=4)(w:World) :
  Calls Tryz.prog 337 #[.string t] w λ e w'=>∃ ad cap,e=.returned (.tuple #[.slice ad z cap,.bool true])/\ZC 9 1 ad z cap (Xd (Z6 t z)) w' w:=by
 obtain⟨h1,h2⟩:=hz;have hne:t.toList.isEmpty=false:=Yg (by omega);have hsz:(t.size:Int)=64*z:=by omega
 have hmod:(64*(z:Int)).tmod 64=0:=by rw [Int.tmod_eq_emod_of_nonneg (by omega)];omega
 go_in
 go_wp2_with fail
 go_loopw [4,5] (λ v i wr=>∃(j:Nat)(ad:Option Addr)(cap:Nat),j<=z/\i=.int .i64 (64*(j:Int))/\v=.slice ad j cap/\ZC 9 1 ad j cap (Xd (Z6 t j)) wr w)
  (λ _ i _=>64*z-(intOf i).toNat)
 case atStart=>exact⟨0,none,0,Nat.zero_le _,rfl,rfl,ZC.nil _ _ _⟩
 case round =>
  obtain⟨j,ad,cap,hj,rfl,rfl,ho⟩:=hrel;obtain⟨g,rfl⟩:=ho.grw
  by_cases hlt:j<z
  ·have hsl:64*j+64<=t.size:=by omega
   go_wp2_with(at_builtin;(with_reducible apply Y2);(·exact rfl);(·exact rfl);(·exact ii);(·exact ii);(·exact ii);(·exact rfl);(·decide);(·omega);intro gA capA gW hOwn);have e:(Xd (Z6 t j))++[Value.string (t.extract (64*j) (64*j+64))]=Xd (Z6 t (j+1)):=by simp [Xd,Z6,List.range_succ,Zha]
   rw [e]at hOwn;exact⟨⟨j+1,_,_,hlt,by go_num,rfl,hOwn⟩,by simp [intOf];omega⟩
  ·obtain rfl:z=j:=by omega
   go_wp2_with fail;go_ret2;exact⟨_,_,rfl,ho⟩
def Ym(L:List YG):List (List Value):=L.map YG.cl
theorem Qk(L:List YG):(Ym L).flatten=QY L:=by simp [Ym,QY]
theorem jK{ad:Option Addr}{n cap:Nat}{L:List YG}{W:World}(h:Zy 4 ad n cap (Ym L) W){k:Nat}{c:YG}(hk:L[k]?=some c):∃ b o,ad=some ⟨b,o,none⟩/\Yc b W/\W.cell? ⟨b,o+k*4,none⟩=some (.int .i64 c.dev)/\W.cell? ⟨b,o+k*4+1,none⟩=some (.int .i64 c.at_)/\W.cell? ⟨b,o+k*4+2,none⟩=some (.bool c.par)/\W.cell? ⟨b,o+k*4+3,none⟩=some (.int .i64 c.row):=by
 obtain⟨b,o,e,hb,hc⟩:=h.cells k c.cl (by simp [Ym,hk]);exact⟨b,o,e,hb,hc 0 _ rfl,hc 1 _ rfl,hc 2 _ rfl,hc 3 _ rfl⟩
def ZeN(l:List Nat):List Value:=l.map λ k:Nat=>.int .i64 (k:Int)
theorem ZkV(ad:Option Addr)(n cap:Nat)(L:List YG)(no:Int)(W:World)[h:Zy 4 ad n cap (Ym L) W](hn:n<=100) :
  Calls Tryz.prog 338 #[.slice ad n cap,.int .i64 no] W λ e w'=>∃ ad2 m cap2,e=.returned (.slice ad2 m cap2)/\m<=n/\ZC 3 1 ad2 m cap2 (ZeN (JJ L no n)) w' W:=by
 have hlen:L.length=n:=by have:=h.len;simpa [Ym]using this
 go_in
 go_wp2_with fail
 go_loopw [5,10] (λ v i wr=>∃(k:Nat)(ad2:Option Addr)(m cap2:Nat),k<=n/\m<=k/\i=.int .i64 k/\v=.slice ad2 m cap2/\ZC 3 1 ad2 m cap2 (ZeN (JJ L no k)) wr W)
  (λ _ i _=>n-(intOf i).toNat)
 case atStart=>exact⟨0,none,0,0,Nat.zero_le _,Nat.le_refl _,rfl,rfl,ZC.nil _ _ _⟩
 case round =>
  obtain⟨k,ad2,m,cap2,hk,hm,rfl,rfl,ho⟩:=hrel;obtain⟨g,rfl⟩:=ho.grw
  by_cases hlt:k<n
  ·obtain⟨c,hc⟩:∃ c,L[k]?=some c:=⟨_,List.getElem?_eq_getElem (by omega)⟩
   obtain⟨b,o,rfl,hb,c0,c1,c2,c3⟩:=jK h hc
   have hs:JJ L no (k+1)=JJ L no k++(if (c.row==no)&&!c.par then [k]else []):=by
    simp only [JJ,List.range_succ,List.filter_append]
    congr 1
    simp only [List.filter_cons,List.filter_nil,isRow,hc]
   have Hs:=Lib.hid hs;have Hc:=Lib.hid hc;clear hs hc
   by_cases hr:c.row=no
   ·cases hp:c.par
    all_goals
     rw [hp]at c2;have hs:=Hs.out;rw [hp]at hs;simp [hr]at hs;have Hs:=Lib.hid hs;clear hs hp;go_wp2_with(at_builtin;(with_reducible apply Y2);(·exact rfl);(·exact rfl);(·exact ii);(·exact ii);(·exact ii);(·exact rfl);(·decide);(·omega);intro gA capA gW hOwn)
    ·exact⟨⟨k+1,_,m+1,_,hlt,by omega,by go_num,rfl,by rw [Hs.out];simpa [ZeN]using hOwn⟩,by simp [intOf];omega⟩
    ·exact⟨⟨k+1,_,m,_,hlt,by omega,by go_num,rfl,by rw [Hs.out];exact ii⟩,by simp [intOf];omega⟩
   ·have hr':(c.row==no)=false:=by simpa using hr
    have hs:=Hs.out;rw [hr']at hs;simp at hs;have Hs:=Lib.hid hs;clear hs hr;go_wp2_with fail;exact⟨⟨k+1,_,m,_,hlt,by omega,by go_num,rfl,by rw [Hs.out];exact ii⟩,by simp [intOf];omega⟩
  ·obtain rfl:n=k:=by omega
   go_wp2_with fail;go_ret;exact⟨_,_,_,rfl,hm,ho⟩
theorem jl(s:ZO)(secs grp at_:Int)[k:Ky s secs](W:World)[m:GM s W](t:ByteArray)(z:Nat)(ht:t.size=64*z)(hz:1<=z/\z<=4)(hm:XG s secs grp at_ z=true)(hl:(Zz s grp at_ z).length<=32)(hl0:0<(Zz s grp at_ z).length)(hr:Ku (Zz s grp at_ z)) :
  Calls Tryz.prog 331 #[.agg #[.slice s.ad s.len s.cap,.int .i64 secs],.agg #[.int .i64 grp,.int .i64 at_],.string t] W λ e w' =>
   ∃ ad,e=.returned (.tuple #[.slice ad (Zz s grp at_ z).length (Zz s grp at_ z).length,.int .i64 0])/\ZC 9 1 ad (Zz s grp at_ z).length (Zz s grp at_ z).length (Xd (XT (Zz s grp at_ z) (Z6 t z))) w' W:=by
 obtain⟨hz1,hz2⟩:=hz;have SA:=λ w=>Zb6 t z ht ⟨hz1,hz2⟩ w
 have OA:∀ w,GM s w->_:=λ w (_:GM s w)=>kR s secs grp at_ z w
 have hm':=Lib.hid hm;have hD0:Z6 t z≠[]:=λ e=>by have:=XX t z;rw [e]at this;simp at this;omega
 have hDz:=Kr t z ht;have hDl:=XX t z;generalize hL:Zz s grp at_ z=L at *
 generalize hn:L.length=n at *
 generalize hD:Z6 t z=D at *
 clear hm
 go_in
 go_wp2_with fail;refine(SA _).mono ?_;rintro e w' ⟨ad1,cap1,rfl,o1⟩;obtain⟨g1,rfl⟩:=o1.grw;dsimp only;go_wp2_with fail;refine(OA _ ii).mono ?_;rintro e w' ⟨hy,hno⟩;obtain⟨ad2,cap2,rfl,o2⟩:=hy hm'.out;clear hy hno;have R1:Zy 1 ad1 z cap1 (ZG D) w':=by obtain⟨g,e⟩:=o2.grw;rw [e];haveI:=o1.rdS;infer_instance
 have R2:Zy 4 ad2 n cap2 (Ym L) w':=ZC.rd (W1:=_) (e:=370) (by rw [Qk];exact o2) (by simpa [Ym]using hn) (by simp [Ym,YG.cl]);have hV:∃ g,w'=gr W g:=Zf (by obtain⟨g,rfl⟩:=o2.grw;(repeat' (first|(with_reducible exact Below.refl _ _)|(with_reducible refine Xc ?_ _)|(with_reducible refine Z5 ?_ _)|(with_reducible refine Below.setCell ?_ ?_ _)|(with_reducible refine Below.drew ?_)|(simp [go_sem];done)|(simp [go_sem];omega))));clear o1 o2 SA OA hL m;dsimp only;go_wp2_with((with_reducible apply YP);(·exact rfl);(·exact rfl);(·omega);intro gM hMk);have hz0:Kn n (e1 L D) (λ _=>⟨#[]⟩) 0=List.replicate n ⟨#[]⟩:=by rw [kQ];exact List.ext_getElem (by simp) (by simp)
 go_loopw [13,44] (λ v i wr=>∃ k:Nat,k<=n/\i=.int .i64 k/\v=.int .i64 (JT L k)/\ZC 9 1 (some ⟨w'.heap.size,0,none⟩) n n (Xd (Kn n (e1 L D) (λ _=>⟨#[]⟩) k)) wr w')
  (λ _ i _=>n-(intOf i).toNat)
 case atStart=>exact⟨0,Nat.zero_le _,rfl,rfl,by rw [hz0];simpa [Xd]using hMk⟩
 case round =>
  clear hMk;obtain⟨k,hk,rfl,rfl,ho⟩:=hrel;have Q1:Zy 1 ad1 z cap1 (ZG D) wr:=by obtain⟨g,rfl⟩:=ho.grw;infer_instance
  have Q2:Zy 4 ad2 n cap2 (Ym L) wr:=by obtain⟨g,rfl⟩:=ho.grw;infer_instance
  by_cases hlt:k<n
  ·obtain⟨c,hc⟩:∃ c,L[k]?=some c:=⟨_,List.getElem?_eq_getElem (by omega)⟩
   obtain⟨b,o,rfl,hb,c0,c1,c2,c3⟩:=jK Q2 hc;have hcs:=jc hc;have he:e1 L D k=if c.par then⟨#[]⟩else D.getD (JT L k%D.length) ⟨#[]⟩:=by simp [e1,hc]
   have hcl:=Zc8 L k;have hput:=ho.put k (.string (e1 L D k));have hset:(Xd (Kn n (e1 L D) (λ _=>⟨#[]⟩) k)).set k (.string (e1 L D k))=Xd (Kn n (e1 L D) (λ _=>⟨#[]⟩) (k+1)):=by rw [<-Vp];exact List.map_set.symm
   rw [hset]at hput;have hsame:c.par=true->Kn n (e1 L D) (λ _=>⟨#[]⟩) (k+1)=Kn n (e1 L D) (λ _=>⟨#[]⟩) k:=λ h=>ZbB λ _=>by simp [he,h]
   have ho':=Lib.hid ho;obtain⟨f1,f2,f3⟩:=ho.facts;have hb0:=f1 k (.string ⟨#[]⟩) (by simp [Xd,zw hlt]);have hf0:=f2 k;clear hc f1 f2 hset ho;cases hp:c.par
   ·rw [hp]at c2 hcs he;have hq:JT L k%z<z:=Nat.mod_lt _ (by omega);obtain⟨u,hu⟩:∃ u,D[JT L k%z]?=some u:=⟨_,List.getElem?_eq_getElem (by omega)⟩
    obtain⟨b1,o1,rfl,hb1,hd⟩:=Q1.cells (JT L k%z) [.string u] (by simp [ZG,hu]);have d0:=hd 0 _ rfl;rw [Nat.mul_one,Nat.add_zero]at d0;have hrem:((JT L k:Nat):Int).tmod (z:Int)=((JT L k%z:Nat):Int):=rfl;have he:e1 L D k=u:=by rw [he,hDl];simp [List.getD_eq_getElem?_getD,hu]
    rw [he]at hput;generalize JT L k%z=q at *
    clear hd hu he hsame;have Hp:=Lib.hid hput;have Hcs:=Lib.hid hcs;clear hput hcs;go_wp2_with fail;haveI:=Hp.out;exact⟨⟨k+1,hlt,by go_num,by rw [Hcs.out];go_num,ii⟩,by simp [intOf];omega⟩
   ·rw [hp]at c2 hcs;have hput:=ho'.out;rw [<-hsame hp]at hput;have Hp:=Lib.hid hput;have Hcs:=Lib.hid hcs;clear hput hcs hb0 hf0 he hsame;go_wp2_with fail;haveI:=Hp.out;exact⟨⟨k+1,hlt,by go_num,by rw [Hcs.out];rfl,ii⟩,by simp [intOf];omega⟩
  ·obtain rfl:n=k:=by omega
   have he12:Kn n (e1 L D) (λ _=>⟨#[]⟩) n=Kn n (e2 L D) (e1 L D) 0:=by rw [VO,kQ]
   rw [he12]at ho;have Hcn:=Zc8 L n;go_wp2_with fail;clear he12
   go_loopw [67] (λ i wr=>∃ k:Nat,k<=n/\i=.int .i64 k/\ZC 9 1 (some ⟨w'.heap.size,0,none⟩) n n (Xd (Kn n (e2 L D) (e1 L D) k)) wr w')
    (λ i _=>n-(intOf i).toNat)
   case atStart=>exact⟨0,Nat.zero_le _,rfl,ho⟩
   case round =>
    clear ho;obtain⟨k,hk,rfl,ho⟩:=hrel;have Q2:Zy 4 ad2 n cap2 (Ym L) wr:=by obtain⟨g,rfl⟩:=ho.grw;infer_instance
    by_cases hlt:k<n
    ·obtain⟨c,hc⟩:∃ c,L[k]?=some c:=⟨_,List.getElem?_eq_getElem (by omega)⟩
     obtain⟨b,o,hb2,hb,c0,c1,c2,c3⟩:=jK Q2 hc;subst hb2;have he:e2 L D k=if c.par then zZ ((JJ L c.row n).map (e1 L D))else e1 L D k:=by simp [e2,hc,hn]
     have hsame:c.par=false->Kn n (e2 L D) (e1 L D) (k+1)=Kn n (e2 L D) (e1 L D) k:=λ h=>ZbB λ _=>by simp [he,h]
     have hrow:c.par=true->JJ L c.row n≠[]/\∀ s∈(JJ L c.row n).map (e1 L D),s.size=64:=λ hp=>by
      obtain⟨d,hd,hd1,hd2⟩:=hr c (List.mem_of_getElem? hc) hp;obtain⟨j,hj⟩:=List.getElem?_of_mem hd;refine⟨λ e=>?_,λ s hs=>?_⟩
      ·have h2:j∈JJ L c.row n:=hn▸zg.2 ⟨d,hj,hd2,hd1⟩;rw [e]at h2;cases h2
      ·obtain⟨i,hi,rfl⟩:=List.mem_map.1 hs;rw [<-hn]at hi;obtain⟨d,h1,_,h3⟩:=zg.1 hi;exact Zaf hD0 hDz h1 h3
     have ho':=Lib.hid ho;clear hc ho;cases hp:c.par
     ·rw [hp]at c2;have h1:=ho'.out;rw [<-hsame hp]at h1;have Hp:=Lib.hid h1;clear h1 he hsame hrow;go_wp2_with fail;haveI:=Hp.out;exact⟨⟨k+1,hlt,by go_num,ii⟩,by simp [intOf];omega⟩
     ·rw [hp]at c2 he;obtain⟨hr0,hr64⟩:=hrow hp;have He:=Lib.hid (show e2 L D k=zZ ((JJ L c.row n).map (e1 L D)) by rw [he];rfl);clear hsame hrow he;go_wp2_with fail;refine(ZkV _ n _ L _ _ (by omega)).mono ?_;rintro e w2 ⟨adr,m,capr,rfl,hmn,o3⟩;dsimp only;obtain⟨g3,e3⟩:=o3.grw;haveI:=ho'.out;have ho2:ZC 9 1 (some ⟨w'.heap.size,0,none⟩) n n (Xd (Kn n (e2 L D) (e1 L D) k)) w2 w':=by rw [e3];infer_instance
      have hml:(JJ L c.row n).length=m:=by have:=o3.own.1;simpa [ZeN]using this
      have R3:Zy 1 adr m capr ((JJ L c.row n).map λ i:Nat=>[.int .i64 (i:Int)]) w2:=ZC.rd (W1:=_) (e:=3) (by
       have e:((JJ L c.row n).map λ i:Nat=>[Value.int .i64 (i:Int)]).flatten=ZeN (JJ L c.row n):=by induction JJ L c.row n<;>simp_all [ZeN]
       rw [e];exact o3) (by simpa using hml) (by simp)
      have Q2:Zy 4 (some ⟨b,o,none⟩) n cap2 (Ym L) w2:=by rw [e3];infer_instance
      have ho':=Lib.hid ho2
      have hrI:∀ i∈JJ L c.row n,i<n/\(Kn n (e2 L D) (e1 L D) k)[i]?=some (e1 L D i):=λ i hi=>by
       rw [<-hn]at hi;obtain⟨d,h1,h2,h3⟩:=zg.1 hi;have hin:=(List.getElem?_eq_some_iff.1 h1).1;rw [hn]at hin;exact⟨hin,by rw [zw hin];simp [e2,h1,h3]⟩
      clear o3 e3 ho2 c0 c1 c2 c3;generalize hI:JJ L c.row n=I at *
      go_wp2_with fail
      go_loopw [18,20,79] (λ v _ i wr=>∃(j:Nat)(adp:Option Addr)(capp:Nat),j<=m/\i=.int .i64 j/\v=.slice adp j capp/\ZC 9 1 adp j capp (Xd ((I.take j).map (e1 L D))) wr w2)
       (λ _ _ i _=>m-(intOf i).toNat)
      case atStart=>exact⟨0,none,0,Nat.zero_le _,rfl,rfl,ZC.nil _ _ _⟩
      case round =>
       obtain⟨j,adp,capp,hj,rfl,rfl,op⟩:=hrel;obtain⟨g4,rfl⟩:=op.grw
       by_cases hlj:j<m
       ·obtain⟨i,hi⟩:∃ i,I[j]?=some i:=⟨_,List.getElem?_eq_getElem (by omega)⟩
        obtain⟨hin,hti⟩:=hrI i (List.mem_of_getElem? hi);obtain⟨b3,o3,rfl,hb3,hd3⟩:=R3.cells j [.int .i64 (i:Int)] (by simp [hi]);have d0:=hd3 0 _ rfl;rw [Nat.mul_one,Nat.add_zero]at d0;haveI:=ho'.out;obtain⟨f1,f2,f3⟩:=ho'.out.facts;have hb0:=f1 i (.string (e1 L D i)) (by simp [Xd,hti]);have Hi:=Lib.hid hi;clear f1 f2 hd3 hi hti;go_wp2_with(at_builtin;(with_reducible apply Y2);(·exact rfl);(·exact rfl);(·exact ii);(·exact ii);(·exact ii);(·exact rfl);(·decide);(·omega);intro gA capA gW hOwn);refine⟨⟨j+1,_,_,hlj,by go_num,rfl,?_⟩,by simp [intOf];omega⟩;rw [List.take_add_one,Hi.out];simpa [Xd]using hOwn
       ·obtain rfl:m=j:=by omega
        rw [List.take_of_length_le (by omega)]at op;have hm0:0<m:=by rw [<-hml];exact List.length_pos_iff.2 hr0
        have RP:=op.rdS;have mk:∀ W':World,[Zy 1 adp m capp (ZG (I.map (e1 L D))) W']->Fn 339 #[.slice adp m capp] W' (.tuple #[.string (zZ (I.map (e1 L D))),.int .i64 0]):=λ W' _=>Zjz adp m capp _ W' 64 (by omega) hm0 (by omega) hr64
        rw [<-He.out]at mk;haveI:=ho'.out;have ho2:ZC 9 1 (some ⟨w'.heap.size,0,none⟩) n n (Xd (Kn n (e2 L D) (e1 L D) k)) (gr w2 g4) w':=ii;generalize gr w2 g4=V at *
        obtain⟨f1,f2,f3⟩:=ho2.facts;have hb0:=f1 k (.string (e1 L D k)) (by simp [Xd,zw hlt]);have hf0:=f2 k;have hput:=ho2.put k (.string (e2 L D k));have hset:(Xd (Kn n (e2 L D) (e1 L D) k)).set k (.string (e2 L D k))=Xd (Kn n (e2 L D) (e1 L D) (k+1)):=by rw [<-Vp];exact List.map_set.symm
        rw [hset]at hput;have Hp:=Lib.hid hput;clear hput hset f1 f2 op ho2;go_wp2_with(with_reducible refine Fn.go λ g=>?_);haveI:=Hp.out;exact⟨⟨k+1,hlt,by go_num,ii⟩,by simp [intOf];omega⟩
    ·obtain rfl:n=k:=by omega
     go_wp2_with fail;go_ret2;refine⟨_,rfl,?_⟩;rw [XT,hn,<- VO (z:=e1 L D)];exact ho.lower hV
def stay(p:Nat->Bool)(xs:List (List Value)):List (List Value):=((List.range xs.length).filter λ k=>!p k).map λ k=>xs[k]!
def XH(p:Nat->Bool)(xs:List (List Value))(j:Nat):List (List Value):=((List.range j).filter λ k=>!p k).map λ k=>xs[k]!
theorem Xp(p:Nat->Bool)(xs:List (List Value))(j:Nat):XH p xs (j+1)=XH p xs j++(if p j then []else [xs[j]!]):=by
 simp only [XH,List.range_succ,List.filter_append,List.map_append]
 congr 1
 cases h:p j<;>simp [h]
theorem XW(p:Nat->Bool)(xs:List (List Value))(j:Nat):(XH p xs j).length<=j:=by
 unfold XH;rw [List.length_map];exact Nat.le_trans (List.length_filter_le ..) (by simp)
structure yV(p:Nat->Bool)(xs:List (List Value))(z j i:Nat)(L:List (List Value)):Prop where
 len:L.length=xs.length
 z:∀ x∈L,x.length=z
 one:∀ x∈L,∀ v∈x,v.oneCell'=true
 at_:i=(XH p xs j).length
 head:L.take i=XH p xs j
 tail:L.drop j=xs.drop j
theorem yV.get{p:Nat->Bool}{xs L:List (List Value)}{z j i:Nat}(d:yV p xs z j i L)(hj:j<xs.length):L[j]?=xs[j]?:=by
 have:=congrArg (λ l=>l[0]?) d.tail;simpa using this
theorem yV.skip{p:Nat->Bool}{xs L:List (List Value)}{z j i:Nat}(d:yV p xs z j i L)(hp:p j=true):yV p xs z (j+1) i L:=by
 refine⟨d.len,d.z,d.one,?_,?_,?_⟩
 ·rw [Xp,if_pos hp,List.append_nil];exact d.at_
 ·rw [Xp,if_pos hp,List.append_nil];exact d.head
 ·have:=congrArg (List.drop 1) d.tail;simpa [List.drop_drop,Nat.add_comm]using this
theorem yV.keep{p:Nat->Bool}{xs L:List (List Value)}{z j i:Nat}(d:yV p xs z j i L)(hj:j<xs.length)(hp:p j=false):yV p xs z (j+1) (i+1) (L.set i xs[j]!):=by
 have hi:i<=j:=by rw [d.at_];exact XW ..
 have hl:=d.len
 have hm:xs[j]!∈L:=by
  have:=d.get hj;rw [List.getElem?_eq_getElem hj]at this;rw [List.getElem!_eq_getElem?_getD,List.getElem?_eq_getElem hj];exact List.mem_of_getElem? this
 refine⟨by simp [hl],λ x hx=>?_,λ x hx=>?_,?_,?_,?_⟩
 ·rcases List.mem_or_eq_of_mem_set hx with h|h
  ·exact d.z x h
  ·rw [h];exact d.z _ hm
 ·rcases List.mem_or_eq_of_mem_set hx with h|h
  ·exact d.one x h
  ·rw [h];exact d.one _ hm
 ·rw [Xp,hp,List.length_append,<- d.at_];rfl
 ·rw [Xp,hp,<- d.head,List.take_add_one,List.take_set_of_le (by omega),List.getElem?_set_self (by omega)];simp
 ·rw [List.drop_set_of_lt (by omega)];have:=congrArg (List.drop 1) d.tail;simpa [List.drop_drop,Nat.add_comm]using this
theorem Zo4(g cap:Nat)(xs:List (List Value))(hn:xs.length<=100000)(hz:∀ x∈xs,x.length=4)(h1:∀ x∈xs,∀ v∈x,v.oneCell'=true)(f:FuncId)(q:XB Tryz.prog f=true)(cp:Array Value)(p:Nat->Bool)(S:Nat->SP)
  (hf:∀ k x,xs[k]?=some x->Tu f (#[.agg x.toArray]++cp) (S k) λ v h=>v=.bool (p k)/\S (k+1) h) :
  Tu 357 #[.slice (some ⟨g,0,none⟩) xs.length cap,.func (.func f) #[] cp] (star [YC 370 4 g cap xs,S 0]) λ v h =>
   v=.slice (some ⟨g,0,none⟩) (stay p xs).length cap/\∃ L,L.take (stay p xs).length=stay p xs/\L.length=xs.length/\star [YC 370 4 g cap L,S xs.length] h:=by
 intro W h hw s
 have IX:=ZoK (some ⟨g,0,none⟩) xs.length cap xs W (by omega) f q cp p (λ k w=>Zg W h (star [YC 370 4 g cap xs,S k]) w) (Zg.same hw s) (λ k w ⟨m,h',i,x,s'⟩=>by
   obtain⟨h0,r,sb⟩:=s'.get (i:=0) rfl;haveI:=i.sub sb
   exact r.rd rfl w) (λ k x w hx t=>?_) hz
 ·have hrun:=λ args w=>Z9 (P:=Tryz.prog) q args w
  go_in
  go_wp2_with fail;refine IX.mono ?_;rintro _ w1 ⟨k,rfl,hk,ha,hb,T1⟩;dsimp only [zX]
  by_cases hlt:k<xs.length
  ·rw [if_pos hlt]at T1 ⊢;have hne:((k:Int)==-1)=false:=beq_eq_false_iff_ne.2 (by omega)
   have hi0:XH p xs (k+1)=xs.take k:=by
    rw [Xp,hb hlt,if_pos rfl,List.append_nil];have e:(List.range k).filter (λ j=>!p j)=List.range k:=List.filter_eq_self.2 λ j hj=>by simp [ha j (by simpa using hj)]
    rw [XH,e];apply List.ext_getElem?;intro j
    by_cases hj:j<k
    ·rw [List.getElem?_map,List.getElem?_range hj,List.getElem?_take,if_pos hj,Option.map_some,List.getElem!_eq_getElem?_getD,List.getElem?_eq_getElem (by omega)];rfl
    ·rw [List.getElem?_eq_none (by simp;omega),List.getElem?_eq_none (by simp;omega)]
   have D0:yV p xs 4 (k+1) k xs:=⟨rfl,hz,h1,by rw [hi0,List.length_take];omega,hi0.symm,rfl⟩
   have HF:=Lib.hid hf;clear hf hi0 ha hb;go_wp2_with fail
   go_loopw [5,6,7] (λ v5 v6 _ wr=>∃(i j:Nat) (L:List (List Value)),j<=xs.length/\v5=.int .i64 i/\v6=.int .i64 j/\yV p xs 4 j i L/\Zg W h (star [YC 370 4 g cap L,S j]) wr)
    (λ _ v6 _ _=>xs.length-(intOf v6).toNat)
   case atStart=>exact⟨k,k+1,xs,hlt,rfl,by go_num,D0,T1⟩
   case round =>
    obtain⟨i,j,L,hj,rfl,rfl,D,T⟩:=hrel;obtain⟨m1,hp1,i1,x1,s1⟩:=T;have hLl:=D.len
    by_cases hlj:j<xs.length
    ·obtain⟨x,hx⟩:∃ x,xs[j]?=some x:=⟨_,List.getElem?_eq_getElem hlj⟩
     have hxz:=hz x (List.mem_of_getElem? hx);have hx1:=h1 x (List.mem_of_getElem? hx);have hLx:L[j]?=some x:=by rw [D.get hlj];exact hx
     have hij:i<=j:=by rw [D.at_];exact XW ..
     have hxj:xs[j]! = x:=by rw [List.getElem!_eq_getElem?_getD,hx];rfl
     haveI:ZJ g (j*4) x.toArray 4 wr:=by
      obtain⟨h0,r,sb⟩:=s1.get (i:=0) rfl;haveI:=i1.sub sb;have R:=r.rd (c:=cap) hLl wr;obtain⟨b,o,e,hb,hc⟩:=R.cells j x hLx;cases e;exact⟨by simpa using hxz,hb,λ k v e=>by have:=hc k v (by simpa using e);rwa [Nat.zero_add]at this⟩
     haveI:=VZ (t:=370) (t':=370) (zs:=#[.int .i64 0,.int .i64 0,.bool false,.int .i64 0]) (by kernel_rfl) hxz hx1 rfl wr;haveI:=Vn (t':=370) hxz wr;have HC:=((HF.out j x hx).at_ (l:=[YC 370 4 g cap L,S j]) (i:=1) rfl)
     clear hx hLx;go_wp2_with(first|((with_reducible apply Za);(·exact rfl);(·exact ii))|((with_reducible apply Zb);(·exact rfl);(·exact rfl);(·exact ii)));refine HC.go s1 ?_;rintro v c h2 hA hE s2;obtain⟨rfl,s3⟩:=star.pure (i:=1) (l:=[YC 370 4 g cap L,S j]) s2 (by simp);replace s3:star [YC 370 4 g cap L,S (j+1)] h2:=s3;have tn:Tn wr hp1 (md (wr.alloc (.cells x.toArray 370)) hp1 c) h2:=ii;have hi2:=tn.i;dsimp only;cases hp:p j
     ·obtain⟨W',hr,T3⟩:=Zaa s3 (k:=0) rfl (i:=i) (by omega) x hxz hx1 (md (wr.alloc (.cells x.toArray 370)) hp1 c);haveI:=Jb (t:=370) (by kernel_rfl) hxz hr;have D':=D.keep hlj hp;rw [hxj]at D';have T4:=Zg.after m1 x1 (Zg.after tn.m tn.x T3);clear tn T3 s2 s3 HC hr;go_wp2_with(first|((with_reducible apply Za);(·exact rfl);(·exact ii))|((with_reducible apply Zb);(·exact rfl);(·exact rfl);(·exact ii)));exact⟨⟨i+1,j+1,_,hlj,by go_num,by go_num,D',T4⟩,by simp [intOf];omega⟩
     ·have D':=D.skip hp;have T4:=Zg.after m1 x1 (Zg.of (t:=tn) s3);clear tn s2 HC;go_wp2_with fail;exact⟨⟨i,j+1,_,hlj,rfl,by go_num,D',T4⟩,by simp [intOf];omega⟩
    ·obtain rfl:xs.length=j:=by omega
     have hil:i<=xs.length:=by rw [D.at_];exact XW ..
     have hst:XH p xs xs.length=stay p xs:=rfl;have hcap:xs.length<=cap:=by obtain⟨h0,⟨_,_,_,_,_,h⟩,_⟩:=s1.get (i:=0) rfl;omega
     obtain⟨W',hr,T3⟩:∃ W',(∀ ty,(Builtin.clear_ #[328] ty #[.slice (some ⟨g,if cap=i then 0 else i*4,none⟩) (xs.length-i) (cap-i)]).run Tryz.prog wr=.ok (.tuple #[]) W')/\Zg wr hp1 (λ h=>∃ L',L'.take i=L.take i/\L'.length=xs.length/\star [YC 370 4 g cap L',S xs.length] h) W':=by
      by_cases hci:cap=i
      ·exact⟨wr,λ ty=>by simp [Builtin.clear_,show xs.length-i=0 by omega,run_underlying Tryz.underlying328],Zg.same i1 ⟨L,rfl,hLl,s1⟩⟩
      ·obtain⟨W',hr,T3⟩:=zD (ts:=328) (c:=cap-i) s1 (k:=0) rfl (i:=i) (by omega) (.agg #[.int .i64 0,.int .i64 0,.bool false,.int .i64 0]) Tryz.underlying328 (λ _=>by kernel_rfl) rfl (by omega) (by simp [Value.cells,Value.oneCell']) wr;rw [hLl]at hr;rw [if_neg hci];have h3:(L.take i).length=i:=by rw [List.length_take];omega
       exact⟨W',hr,T3.mono λ h' s'=>⟨_,List.take_left' h3,by simp;omega,s'⟩⟩
     have hil2:i=(stay p xs).length:=by rw [<-hst];exact D.at_
     have T4:Zg W h (λ h=>∃ L,L.take (stay p xs).length=stay p xs/\L.length=xs.length/\star [YC 370 4 g cap L,S xs.length] h) W':=(Zg.after m1 x1 T3).mono λ h' ⟨L',e1,e2,s'⟩=>⟨L',by rw [<-hil2,e1,D.head,hst],e2,s'⟩
     have H4:=Lib.hid T4;have Hi:=Lib.hid hil2;clear T3 T4 s1 hil2
     by_cases hci:cap=i
     ·subst hci;simp only [if_true,Nat.sub_self,show xs.length-cap=0 by omega]at hr;go_wp2_with fail;go_ret;exact⟨_,rfl,H4.out.mono λ h' s'=>⟨by first|(rw [Hi.out];rfl)|rfl,s'⟩⟩
     ·simp only [hci,if_false]at hr;go_wp2_with fail;go_ret;exact⟨_,rfl,H4.out.mono λ h' s'=>⟨by first|(rw [Hi.out];rfl)|rfl,s'⟩⟩
  ·rw [if_neg hlt]at T1 ⊢
   have hst:stay p xs=xs:=by
    have hk2:xs.length=k:=by omega
    have e:(List.range xs.length).filter (λ j=>!p j)=List.range xs.length:=List.filter_eq_self.2 λ j hj=>by simp [ha j (by have:=List.mem_range.1 hj;omega)]
    rw [stay,e];apply List.ext_getElem?;intro j
    by_cases hj:j<xs.length
    ·rw [List.getElem?_map,List.getElem?_range hj,Option.map_some,List.getElem!_eq_getElem?_getD,List.getElem?_eq_getElem hj];rfl
    ·rw [List.getElem?_eq_none (by simp;omega),List.getElem?_eq_none (by omega)]
   go_wp2_with fail;go_ret;exact⟨_,rfl,T1.mono λ h' s'=>⟨by rw [hst];rfl,xs,by rw [hst,List.take_length],rfl,s'⟩⟩
 ·obtain⟨m,h',i,x2,s'⟩:=t;refine((hf k x hx).at_ (l:=[YC 370 4 g cap xs,S k]) (i:=1) rfl _ _ i s').mono ?_;rintro e w' ⟨v,rfl,t⟩;have t2:=t.mono (Q:=λ h=>v=.bool (p k)/\star [YC 370 4 g cap xs,S (k+1)] h) λ h' s2=>star.pure (i:=1) (l:=[YC 370 4 g cap xs,S k]) s2 (by simp)
  obtain⟨m2,h2,i2,x3,rfl,s3⟩:=t2;exact⟨rfl,Zg.after m x2 ⟨m2,h2,i2,x3,s3⟩⟩
theorem Zpd(g cap:Nat)(xs:List (List Value))(hn:xs.length<=100000)(hz:∀ x∈xs,x.length=12)(h1:∀ x∈xs,∀ v∈x,v.oneCell'=true)(f:FuncId)(q:XB Tryz.prog f=true)(cp:Array Value)(p:Nat->Bool)(S:Nat->SP)
  (hf:∀ k x,xs[k]?=some x->Tu f (#[.agg x.toArray]++cp) (S k) λ v h=>v=.bool (p k)/\S (k+1) h) :
  Tu 178 #[.slice (some ⟨g,0,none⟩) xs.length cap,.func (.func f) #[] cp] (star [YC 50 12 g cap xs,S 0]) λ v h =>
   v=.slice (some ⟨g,0,none⟩) (stay p xs).length cap/\∃ L,L.take (stay p xs).length=stay p xs/\L.length=xs.length/\star [YC 50 12 g cap L,S xs.length] h:=by
 intro W h hw s
 have IX:=ZmW (some ⟨g,0,none⟩) xs.length cap xs W (by omega) f q cp p (λ k w=>Zg W h (star [YC 50 12 g cap xs,S k]) w) (Zg.same hw s) (λ k w ⟨m,h',i,x,s'⟩=>by
   obtain⟨h0,r,sb⟩:=s'.get (i:=0) rfl;haveI:=i.sub sb
   exact r.rd rfl w) (λ k x w hx t=>?_) hz
 ·have hrun:=λ args w=>Z9 (P:=Tryz.prog) q args w
  go_in
  go_wp2_with fail;refine IX.mono ?_;rintro _ w1 ⟨k,rfl,hk,ha,hb,T1⟩;dsimp only [zX]
  by_cases hlt:k<xs.length
  ·rw [if_pos hlt]at T1 ⊢;have hne:((k:Int)==-1)=false:=beq_eq_false_iff_ne.2 (by omega)
   have hi0:XH p xs (k+1)=xs.take k:=by
    rw [Xp,hb hlt,if_pos rfl,List.append_nil];have e:(List.range k).filter (λ j=>!p j)=List.range k:=List.filter_eq_self.2 λ j hj=>by simp [ha j (by simpa using hj)]
    rw [XH,e];apply List.ext_getElem?;intro j
    by_cases hj:j<k
    ·rw [List.getElem?_map,List.getElem?_range hj,List.getElem?_take,if_pos hj,Option.map_some,List.getElem!_eq_getElem?_getD,List.getElem?_eq_getElem (by omega)];rfl
    ·rw [List.getElem?_eq_none (by simp;omega),List.getElem?_eq_none (by simp;omega)]
   have D0:yV p xs 12 (k+1) k xs:=⟨rfl,hz,h1,by rw [hi0,List.length_take];omega,hi0.symm,rfl⟩
   have HF:=Lib.hid hf;clear hf hi0 ha hb;go_wp2_with fail
   go_loopw [5,6,7] (λ v5 v6 _ wr=>∃(i j:Nat) (L:List (List Value)),j<=xs.length/\v5=.int .i64 i/\v6=.int .i64 j/\yV p xs 12 j i L/\Zg W h (star [YC 50 12 g cap L,S j]) wr)
    (λ _ v6 _ _=>xs.length-(intOf v6).toNat)
   case atStart=>exact⟨k,k+1,xs,hlt,rfl,by go_num,D0,T1⟩
   case round =>
    obtain⟨i,j,L,hj,rfl,rfl,D,T⟩:=hrel;obtain⟨m1,hp1,i1,x1,s1⟩:=T;have hLl:=D.len
    by_cases hlj:j<xs.length
    ·obtain⟨x,hx⟩:∃ x,xs[j]?=some x:=⟨_,List.getElem?_eq_getElem hlj⟩
     have hxz:=hz x (List.mem_of_getElem? hx);have hx1:=h1 x (List.mem_of_getElem? hx);have hLx:L[j]?=some x:=by rw [D.get hlj];exact hx
     have hij:i<=j:=by rw [D.at_];exact XW ..
     have hxj:xs[j]! = x:=by rw [List.getElem!_eq_getElem?_getD,hx];rfl
     haveI:ZJ g (j*12) x.toArray 12 wr:=by
      obtain⟨h0,r,sb⟩:=s1.get (i:=0) rfl;haveI:=i1.sub sb;have R:=r.rd (c:=cap) hLl wr;obtain⟨b,o,e,hb,hc⟩:=R.cells j x hLx;cases e;exact⟨by simpa using hxz,hb,λ k v e=>by have:=hc k v (by simpa using e);rwa [Nat.zero_add]at this⟩
     haveI:=VZ (t:=50) (t':=50) (zs:=#[.int .i64 0,.int .i64 0,.int .i64 0,.int .i64 0,.bool false,.int .i64 0,.int .i64 0,.int .i64 0,.int .u64 0,.int .u64 0,.int .u64 0,.int .u64 0]) (by kernel_rfl) hxz hx1 rfl wr;haveI:=Vn (t':=50) hxz wr;have HC:=((HF.out j x hx).at_ (l:=[YC 50 12 g cap L,S j]) (i:=1) rfl)
     clear hx hLx;go_wp2_with(first|((with_reducible apply Za);(·exact rfl);(·exact ii))|((with_reducible apply Zb);(·exact rfl);(·exact rfl);(·exact ii)));refine HC.go s1 ?_;rintro v c h2 hA hE s2;obtain⟨rfl,s3⟩:=star.pure (i:=1) (l:=[YC 50 12 g cap L,S j]) s2 (by simp);replace s3:star [YC 50 12 g cap L,S (j+1)] h2:=s3;have tn:Tn wr hp1 (md (wr.alloc (.cells x.toArray 50)) hp1 c) h2:=ii;have hi2:=tn.i;dsimp only;cases hp:p j
     ·obtain⟨W',hr,T3⟩:=Zaa s3 (k:=0) rfl (i:=i) (by omega) x hxz hx1 (md (wr.alloc (.cells x.toArray 50)) hp1 c);haveI:=Jb (t:=50) (by kernel_rfl) hxz hr;have D':=D.keep hlj hp;rw [hxj]at D';have T4:=Zg.after m1 x1 (Zg.after tn.m tn.x T3);clear tn T3 s2 s3 HC hr;go_wp2_with(first|((with_reducible apply Za);(·exact rfl);(·exact ii))|((with_reducible apply Zb);(·exact rfl);(·exact rfl);(·exact ii)));exact⟨⟨i+1,j+1,_,hlj,by go_num,by go_num,D',T4⟩,by simp [intOf];omega⟩
     ·have D':=D.skip hp;have T4:=Zg.after m1 x1 (Zg.of (t:=tn) s3);clear tn s2 HC;go_wp2_with fail;exact⟨⟨i,j+1,_,hlj,rfl,by go_num,D',T4⟩,by simp [intOf];omega⟩
    ·obtain rfl:xs.length=j:=by omega
     have hil:i<=xs.length:=by rw [D.at_];exact XW ..
     have hst:XH p xs xs.length=stay p xs:=rfl;have hcap:xs.length<=cap:=by obtain⟨h0,⟨_,_,_,_,_,h⟩,_⟩:=s1.get (i:=0) rfl;omega
     obtain⟨W',hr,T3⟩:∃ W',(∀ ty,(Builtin.clear_ #[149] ty #[.slice (some ⟨g,if cap=i then 0 else i*12,none⟩) (xs.length-i) (cap-i)]).run Tryz.prog wr=.ok (.tuple #[]) W')/\Zg wr hp1 (λ h=>∃ L',L'.take i=L.take i/\L'.length=xs.length/\star [YC 50 12 g cap L',S xs.length] h) W':=by
      by_cases hci:cap=i
      ·exact⟨wr,λ ty=>by simp [Builtin.clear_,show xs.length-i=0 by omega,run_underlying Tryz.underlying149],Zg.same i1 ⟨L,rfl,hLl,s1⟩⟩
      ·obtain⟨W',hr,T3⟩:=zD (ts:=149) (c:=cap-i) s1 (k:=0) rfl (i:=i) (by omega) (.agg #[.int .i64 0,.int .i64 0,.int .i64 0,.int .i64 0,.bool false,.int .i64 0,.int .i64 0,.int .i64 0,.int .u64 0,.int .u64 0,.int .u64 0,.int .u64 0]) Tryz.underlying149 (λ _=>by kernel_rfl) rfl (by omega) (by simp [Value.cells,Value.oneCell']) wr;rw [hLl]at hr;rw [if_neg hci];have h3:(L.take i).length=i:=by rw [List.length_take];omega
       exact⟨W',hr,T3.mono λ h' s'=>⟨_,List.take_left' h3,by simp;omega,s'⟩⟩
     have hil2:i=(stay p xs).length:=by rw [<-hst];exact D.at_
     have T4:Zg W h (λ h=>∃ L,L.take (stay p xs).length=stay p xs/\L.length=xs.length/\star [YC 50 12 g cap L,S xs.length] h) W':=(Zg.after m1 x1 T3).mono λ h' ⟨L',e1,e2,s'⟩=>⟨L',by rw [<-hil2,e1,D.head,hst],e2,s'⟩
     have H4:=Lib.hid T4;have Hi:=Lib.hid hil2;clear T3 T4 s1 hil2
     by_cases hci:cap=i
     ·subst hci;simp only [if_true,Nat.sub_self,show xs.length-cap=0 by omega]at hr;go_wp2_with fail;go_ret;exact⟨_,rfl,H4.out.mono λ h' s'=>⟨by first|(rw [Hi.out];rfl)|rfl,s'⟩⟩
     ·simp only [hci,if_false]at hr;go_wp2_with fail;go_ret;exact⟨_,rfl,H4.out.mono λ h' s'=>⟨by first|(rw [Hi.out];rfl)|rfl,s'⟩⟩
  ·rw [if_neg hlt]at T1 ⊢
   have hst:stay p xs=xs:=by
    have hk2:xs.length=k:=by omega
    have e:(List.range xs.length).filter (λ j=>!p j)=List.range xs.length:=List.filter_eq_self.2 λ j hj=>by simp [ha j (by have:=List.mem_range.1 hj;omega)]
    rw [stay,e];apply List.ext_getElem?;intro j
    by_cases hj:j<xs.length
    ·rw [List.getElem?_map,List.getElem?_range hj,Option.map_some,List.getElem!_eq_getElem?_getD,List.getElem?_eq_getElem hj];rfl
    ·rw [List.getElem?_eq_none (by simp;omega),List.getElem?_eq_none (by omega)]
   go_wp2_with fail;go_ret;exact⟨_,rfl,T1.mono λ h' s'=>⟨by rw [hst];rfl,xs,by rw [hst,List.take_length],rfl,s'⟩⟩
 ·obtain⟨m,h',i,x2,s'⟩:=t;refine((hf k x hx).at_ (l:=[YC 50 12 g cap xs,S k]) (i:=1) rfl _ _ i s').mono ?_;rintro e w' ⟨v,rfl,t⟩;have t2:=t.mono (Q:=λ h=>v=.bool (p k)/\star [YC 50 12 g cap xs,S (k+1)] h) λ h' s2=>star.pure (i:=1) (l:=[YC 50 12 g cap xs,S k]) s2 (by simp)
  obtain⟨m2,h2,i2,x3,rfl,s3⟩:=t2;exact⟨rfl,Zg.after m x2 ⟨m2,h2,i2,x3,s3⟩⟩
theorem Zo0(g cap:Nat)(xs:List (List Value))(hn:xs.length<=100000)(hz:∀ x∈xs,x.length=2)(h1:∀ x∈xs,∀ v∈x,v.oneCell'=true)(f:FuncId)(q:XB Tryz.prog f=true)(cp:Array Value)(p:Nat->Bool)(S:Nat->SP)
  (hf:∀ k x,xs[k]?=some x->Tu f (#[.agg x.toArray]++cp) (S k) λ v h=>v=.bool (p k)/\S (k+1) h) :
  Tu 324 #[.slice (some ⟨g,0,none⟩) xs.length cap,.func (.func f) #[] cp] (star [YC 45 2 g cap xs,S 0]) λ v h =>
   v=.slice (some ⟨g,0,none⟩) (stay p xs).length cap/\∃ L,L.take (stay p xs).length=stay p xs/\L.length=xs.length/\star [YC 45 2 g cap L,S xs.length] h:=by
 intro W h hw s
 have IX:=Zow (some ⟨g,0,none⟩) xs.length cap xs W (by omega) f q cp p (λ k w=>Zg W h (star [YC 45 2 g cap xs,S k]) w) (Zg.same hw s) (λ k w ⟨m,h',i,x,s'⟩=>by
   obtain⟨h0,r,sb⟩:=s'.get (i:=0) rfl;haveI:=i.sub sb
   exact r.rd rfl w) (λ k x w hx t=>?_) hz
 ·have hrun:=λ args w=>Z9 (P:=Tryz.prog) q args w
  go_in
  go_wp2_with fail;refine IX.mono ?_;rintro _ w1 ⟨k,rfl,hk,ha,hb,T1⟩;dsimp only [zX]
  by_cases hlt:k<xs.length
  ·rw [if_pos hlt]at T1 ⊢;have hne:((k:Int)==-1)=false:=beq_eq_false_iff_ne.2 (by omega)
   have hi0:XH p xs (k+1)=xs.take k:=by
    rw [Xp,hb hlt,if_pos rfl,List.append_nil];have e:(List.range k).filter (λ j=>!p j)=List.range k:=List.filter_eq_self.2 λ j hj=>by simp [ha j (by simpa using hj)]
    rw [XH,e];apply List.ext_getElem?;intro j
    by_cases hj:j<k
    ·rw [List.getElem?_map,List.getElem?_range hj,List.getElem?_take,if_pos hj,Option.map_some,List.getElem!_eq_getElem?_getD,List.getElem?_eq_getElem (by omega)];rfl
    ·rw [List.getElem?_eq_none (by simp;omega),List.getElem?_eq_none (by simp;omega)]
   have D0:yV p xs 2 (k+1) k xs:=⟨rfl,hz,h1,by rw [hi0,List.length_take];omega,hi0.symm,rfl⟩
   have HF:=Lib.hid hf;clear hf hi0 ha hb;go_wp2_with fail
   go_loopw [5,6,7] (λ v5 v6 _ wr=>∃(i j:Nat) (L:List (List Value)),j<=xs.length/\v5=.int .i64 i/\v6=.int .i64 j/\yV p xs 2 j i L/\Zg W h (star [YC 45 2 g cap L,S j]) wr)
    (λ _ v6 _ _=>xs.length-(intOf v6).toNat)
   case atStart=>exact⟨k,k+1,xs,hlt,rfl,by go_num,D0,T1⟩
   case round =>
    obtain⟨i,j,L,hj,rfl,rfl,D,T⟩:=hrel;obtain⟨m1,hp1,i1,x1,s1⟩:=T;have hLl:=D.len
    by_cases hlj:j<xs.length
    ·obtain⟨x,hx⟩:∃ x,xs[j]?=some x:=⟨_,List.getElem?_eq_getElem hlj⟩
     have hxz:=hz x (List.mem_of_getElem? hx);have hx1:=h1 x (List.mem_of_getElem? hx);have hLx:L[j]?=some x:=by rw [D.get hlj];exact hx
     have hij:i<=j:=by rw [D.at_];exact XW ..
     have hxj:xs[j]! = x:=by rw [List.getElem!_eq_getElem?_getD,hx];rfl
     haveI:ZJ g (j*2) x.toArray 2 wr:=by
      obtain⟨h0,r,sb⟩:=s1.get (i:=0) rfl;haveI:=i1.sub sb;have R:=r.rd (c:=cap) hLl wr;obtain⟨b,o,e,hb,hc⟩:=R.cells j x hLx;cases e;exact⟨by simpa using hxz,hb,λ k v e=>by have:=hc k v (by simpa using e);rwa [Nat.zero_add]at this⟩
     haveI:=VZ (t:=45) (t':=45) (zs:=#[.int .i64 0,.int .i64 0]) (by kernel_rfl) hxz hx1 rfl wr;haveI:=Vn (t':=45) hxz wr;have HC:=((HF.out j x hx).at_ (l:=[YC 45 2 g cap L,S j]) (i:=1) rfl)
     clear hx hLx;go_wp2_with(first|((with_reducible apply Za);(·exact rfl);(·exact ii))|((with_reducible apply Zb);(·exact rfl);(·exact rfl);(·exact ii)));refine HC.go s1 ?_;rintro v c h2 hA hE s2;obtain⟨rfl,s3⟩:=star.pure (i:=1) (l:=[YC 45 2 g cap L,S j]) s2 (by simp);replace s3:star [YC 45 2 g cap L,S (j+1)] h2:=s3;have tn:Tn wr hp1 (md (wr.alloc (.cells x.toArray 45)) hp1 c) h2:=ii;have hi2:=tn.i;dsimp only;cases hp:p j
     ·obtain⟨W',hr,T3⟩:=Zaa s3 (k:=0) rfl (i:=i) (by omega) x hxz hx1 (md (wr.alloc (.cells x.toArray 45)) hp1 c);haveI:=Jb (t:=45) (by kernel_rfl) hxz hr;have D':=D.keep hlj hp;rw [hxj]at D';have T4:=Zg.after m1 x1 (Zg.after tn.m tn.x T3);clear tn T3 s2 s3 HC hr;go_wp2_with(first|((with_reducible apply Za);(·exact rfl);(·exact ii))|((with_reducible apply Zb);(·exact rfl);(·exact rfl);(·exact ii)));exact⟨⟨i+1,j+1,_,hlj,by go_num,by go_num,D',T4⟩,by simp [intOf];omega⟩
     ·have D':=D.skip hp;have T4:=Zg.after m1 x1 (Zg.of (t:=tn) s3);clear tn s2 HC;go_wp2_with fail;exact⟨⟨i,j+1,_,hlj,rfl,by go_num,D',T4⟩,by simp [intOf];omega⟩
    ·obtain rfl:xs.length=j:=by omega
     have hil:i<=xs.length:=by rw [D.at_];exact XW ..
     have hst:XH p xs xs.length=stay p xs:=rfl;have hcap:xs.length<=cap:=by obtain⟨h0,⟨_,_,_,_,_,h⟩,_⟩:=s1.get (i:=0) rfl;omega
     obtain⟨W',hr,T3⟩:∃ W',(∀ ty,(Builtin.clear_ #[281] ty #[.slice (some ⟨g,if cap=i then 0 else i*2,none⟩) (xs.length-i) (cap-i)]).run Tryz.prog wr=.ok (.tuple #[]) W')/\Zg wr hp1 (λ h=>∃ L',L'.take i=L.take i/\L'.length=xs.length/\star [YC 45 2 g cap L',S xs.length] h) W':=by
      by_cases hci:cap=i
      ·exact⟨wr,λ ty=>by simp [Builtin.clear_,show xs.length-i=0 by omega,run_underlying Tryz.underlying281],Zg.same i1 ⟨L,rfl,hLl,s1⟩⟩
      ·obtain⟨W',hr,T3⟩:=zD (ts:=281) (c:=cap-i) s1 (k:=0) rfl (i:=i) (by omega) (.agg #[.int .i64 0,.int .i64 0]) Tryz.underlying281 (λ _=>by kernel_rfl) rfl (by omega) (by simp [Value.cells,Value.oneCell']) wr;rw [hLl]at hr;rw [if_neg hci];have h3:(L.take i).length=i:=by rw [List.length_take];omega
       exact⟨W',hr,T3.mono λ h' s'=>⟨_,List.take_left' h3,by simp;omega,s'⟩⟩
     have hil2:i=(stay p xs).length:=by rw [<-hst];exact D.at_
     have T4:Zg W h (λ h=>∃ L,L.take (stay p xs).length=stay p xs/\L.length=xs.length/\star [YC 45 2 g cap L,S xs.length] h) W':=(Zg.after m1 x1 T3).mono λ h' ⟨L',e1,e2,s'⟩=>⟨L',by rw [<-hil2,e1,D.head,hst],e2,s'⟩
     have H4:=Lib.hid T4;have Hi:=Lib.hid hil2;clear T3 T4 s1 hil2
     by_cases hci:cap=i
     ·subst hci;simp only [if_true,Nat.sub_self,show xs.length-cap=0 by omega]at hr;go_wp2_with fail;go_ret;exact⟨_,rfl,H4.out.mono λ h' s'=>⟨by first|(rw [Hi.out];rfl)|rfl,s'⟩⟩
     ·simp only [hci,if_false]at hr;go_wp2_with fail;go_ret;exact⟨_,rfl,H4.out.mono λ h' s'=>⟨by first|(rw [Hi.out];rfl)|rfl,s'⟩⟩
  ·rw [if_neg hlt]at T1 ⊢
   have hst:stay p xs=xs:=by
    have hk2:xs.length=k:=by omega
    have e:(List.range xs.length).filter (λ j=>!p j)=List.range xs.length:=List.filter_eq_self.2 λ j hj=>by simp [ha j (by have:=List.mem_range.1 hj;omega)]
    rw [stay,e];apply List.ext_getElem?;intro j
    by_cases hj:j<xs.length
    ·rw [List.getElem?_map,List.getElem?_range hj,Option.map_some,List.getElem!_eq_getElem?_getD,List.getElem?_eq_getElem hj];rfl
    ·rw [List.getElem?_eq_none (by simp;omega),List.getElem?_eq_none (by omega)]
   go_wp2_with fail;go_ret;exact⟨_,rfl,T1.mono λ h' s'=>⟨by rw [hst];rfl,xs,by rw [hst,List.take_length],rfl,s'⟩⟩
 ·obtain⟨m,h',i,x2,s'⟩:=t;refine((hf k x hx).at_ (l:=[YC 45 2 g cap xs,S k]) (i:=1) rfl _ _ i s').mono ?_;rintro e w' ⟨v,rfl,t⟩;have t2:=t.mono (Q:=λ h=>v=.bool (p k)/\star [YC 45 2 g cap xs,S (k+1)] h) λ h' s2=>star.pure (i:=1) (l:=[YC 45 2 g cap xs,S k]) s2 (by simp)
  obtain⟨m2,h2,i2,x3,rfl,s3⟩:=t2;exact⟨rfl,Zg.after m x2 ⟨m2,h2,i2,x3,s3⟩⟩
theorem zj(b o j:Nat):(⟨b,o,none⟩:Addr).add j=⟨b,o+j,none⟩:=by unfold Addr.add;split<;>simp_all
theorem QT(e:TypeId)(z:Nat)(W:World):ZC e z (some ⟨W.heap.size,0,none⟩) 0 0 [] (W.alloc (.cells #[] e)) W :=
 ⟨⟨by simp,.inr ⟨W.heap.size,0,#[],rfl,Nat.le_refl _,alloc_heap_new _ _,Nat.le_refl _,Nat.zero_le _,by simp,by simp⟩⟩,⟨_,(congrArg (λ w:World=>w.alloc (.cells #[] e)) (ZaT W)).trans (ZK _ _ _)⟩⟩
theorem kx{ts e:TypeId}{z by_:Nat}[k:Jl ts e z by_]{W W1:World}{ad:Option Addr}{a2:Addr}{n cap m c:Nat}{xs:List Value}{ys:List (List Value)}(ho:ZC e z ad n cap xs W W1)(hr:Zy z (some a2) m c ys W)(hz:∀ y∈ys,y.length=z)(h1:∀ y∈ys,∀ u∈y,u.oneCell'=true)(hn:n+m<=1000000)(hb:by_<=1000) :
  ∃ ad' cap' W',(∀ ty,(Builtin.append_ #[ts,ts] ty #[.slice ad n cap,.slice (some a2) m c]).run Tryz.prog W=.ok (.slice ad' (n+m) cap') W')/\ZC e z ad' (n+m) cap' (xs++ys.flatten) W' W1/\(ad≠none->ad'≠none):=by
 obtain⟨i,zr,hi,hz0,hz1,hz2,hz3⟩:=Jl.el (ts:=ts) (e:=e) (z:=z) (by_:=by_);have ksl:=Jl.sl (ts:=ts) (e:=e) (z:=z) (by_:=by_);have kpos:=Jl.pos (ts:=ts) (e:=e) (z:=z) (by_:=by_);obtain⟨g,hg⟩:=ho.grw;have hsz:W1.heap.size<=W.heap.size:=by rw [hg,Yl];omega
 obtain⟨v',W',hrun,hown',hgr,hnil⟩:=run_append_own (P:=Tryz.prog) W W1.heap.size ts ts e i zr z by_ ksl hi hz0 hz1 hz2 hz3 kpos _ n xs ho.own a2 m c ys.flatten (by rw [Yy hz,hr.len])
  (λ j u hj=>by
   have hl:=Yy hz;have hjl:j<ys.length*z:=by rw [<-hl];exact(List.getElem?_eq_some_iff.1 hj).1
   have hq:j/z<ys.length:=Nat.div_lt_of_lt_mul (by rw [Nat.mul_comm];exact hjl);have hm:j%z<z:=Nat.mod_lt _ kpos;have e:j=j/z*z+j%z:=by rw [Nat.mul_comm];exact(Nat.div_add_mod ..).symm
   have hy:=List.getElem?_eq_getElem hq;have h2:=QM ys z (j/z) (j%z) _ hz hy hm;rw [<-e,hj]at h2;obtain⟨b,o,he,hb,hc⟩:=hr.cells _ _ hy;obtain rfl:a2=⟨b,o,none⟩:=by injection he
   have h3:=hc _ _ h2.symm
   have e2:(⟨b,o,none⟩:Addr).add j=⟨b,o+j/z*z+j%z,none⟩:=by
    have:o+j/z*z+j%z=o+j:=by omega
    rw [this];exact zj _ _ _
   rw [e2];exact h3) (λ u hu=>by obtain⟨y,hy,hu⟩:=List.mem_flatten.1 hu;exact h1 y hy u hu) (by unfold maxLen;omega) (by have:=Nat.mul_le_mul hn hb;omega) hsz
 have hb:Below W1.heap.size W1 W':=Below.grown (by rw [hg];exact Yb _ _) hgr hsz (λ j hj=>(ho.own.lt j hj).1);rcases hown'.2 with ⟨rfl,h0⟩|⟨g',cap',cur',rfl,hb',hg',hle',hmx',hs',ht'⟩
 ·refine⟨none,0,W',λ ty=>by rw [h0];exact hrun,⟨by rw [h0]at hown' ⊢;exact hown',Zf hb⟩,λ h=>?_⟩;have:=(hnil.1 rfl).1;injection this with e1;exact absurd e1 h
 ·exact⟨_,cap',W',λ _=>hrun,⟨hown',Zf hb⟩,λ _=>by simp⟩
section
variable{ops:Array Oper}{rest:List Oper}{Q:Exit->Act->World->Prop}{a:Act}{w:World}{d:Option Tmp}{pos:String}{aft:Array Edge}
theorem X4{ts e:TypeId}{z by_:Nat}[k:Jl ts e z by_]{x y:Operand}{W1:World}{ad:Option Addr}{a2:Addr}{n cap m c:Nat}{xs:List Value}{ys:List (List Value)}(hx:a.eval x=.slice ad n cap)(hy:a.eval y=.slice (some a2) m c)
  (ho:ZC e z ad n cap xs w W1) (hr:Zy z (some a2) m c ys w) (hz:∀ y∈ys,y.length=z) (h1:∀ y∈ys,∀ u∈y,u.oneCell'=true) (hn:n+m<=1000000) (hb:by_<=1000)
  (h:∀ ad' cap' g,ZC e z ad' (n+m) cap' (xs++ys.flatten) (gr W1 g) W1->(ad≠none->ad'≠none)->wpList Tryz.prog ops Q rest (a.put d (.slice ad' (n+m) cap')) (gr W1 g)) :
  wpList Tryz.prog ops Q ({ dst:=d,op:=.call { callee:=.builtin .append,args:=#[x,y],argTypes:=#[ts,ts] },type:=ts,pos:=pos,after:=aft,guard:=none }::rest) a w:=by
 obtain⟨ad',cap',W',hrn,ho',hne⟩:=kx (ts:=ts) ho hr hz h1 hn hb;refine ZP rfl _ _ _ _ rfl _ _ hx hy (hrn _) ?_;obtain⟨g,rfl⟩:=ho'.grw;exact h ad' cap' g ho' hne
end
theorem ZoV(ad:Option Addr)(n cap:Nat)(xs:List (List Value))(W:World)[r:Zy 4 ad n cap xs W](hn:n<=1000000)(hz:∀ y∈xs,y.length=4)(h1:∀ y∈xs,∀ u∈y,u.oneCell'=true)(h0:ad=none->cap=0) :
  Calls Tryz.prog 358 #[.slice ad n cap] W λ e w'=>∃ ad' cap',e=.returned (.slice ad' n cap')/\ZC 370 4 ad' n cap' xs.flatten w' W/\(ad=none↔ad'=none):=by
 cases ad with
 |none =>
  obtain rfl:xs=[]:=by
   cases xs with
   |nil=>rfl
   |cons x l=>obtain⟨b,o,e,_⟩:=r.cells 0 x rfl;cases e
  obtain rfl:n=0:=r.len.symm;obtain rfl:=h0 rfl;have he:=λ w:World=>(show (binOp .eql 328 (.slice none 0 0) (.slice none 0 0)).run Tryz.prog w=.ok (.bool true) w by kernel_rfl)
  go_in
  go_wp2_with fail;go_ret;exact⟨none,0,rfl,ZC.nil _ _ _,by simp⟩
 |some a =>
  have he:=λ w:World=>(show (binOp .eql 328 (.slice (some a) n cap) (.slice none 0 0)).run Tryz.prog w=.ok (.bool false) w by kernel_rfl)
  go_in
  go_wp2_with(at_builtin;refine X4 (m:=n) (c:=cap) (ys:=xs) (by_:=32) rfl rfl (QT _ _ _) ii hz h1 (by omega) (by omega) ?_;intro ad' cap' g ho hne);go_ret;rw [Nat.zero_add]at *
  exact⟨ad',cap',by simp,ho,by simp;exact hne (by simp)⟩
instance ZrA:Jl 202 207 2 16:=Qj Tryz.underlying202 (by kernel_rfl) (by omega)
theorem ZmI(ad:Option Addr)(n cap:Nat)(xs:List (List Value))(W:World)[r:Zy 2 ad n cap xs W](hn:n<=1000000)(hz:∀ y∈xs,y.length=2)(h1:∀ y∈xs,∀ u∈y,u.oneCell'=true)(h0:ad=none->cap=0) :
  Calls Tryz.prog 109 #[.slice ad n cap] W λ e w'=>∃ ad' cap',e=.returned (.slice ad' n cap')/\ZC 207 2 ad' n cap' xs.flatten w' W/\(ad=none↔ad'=none):=by
 cases ad with
 |none =>
  obtain rfl:xs=[]:=by
   cases xs with
   |nil=>rfl
   |cons x l=>obtain⟨b,o,e,_⟩:=r.cells 0 x rfl;cases e
  obtain rfl:n=0:=r.len.symm;obtain rfl:=h0 rfl;have he:=λ w:World=>(show (binOp .eql 202 (.slice none 0 0) (.slice none 0 0)).run Tryz.prog w=.ok (.bool true) w by kernel_rfl)
  go_in
  go_wp2_with fail;go_ret;exact⟨none,0,rfl,ZC.nil _ _ _,by simp⟩
 |some a =>
  have he:=λ w:World=>(show (binOp .eql 202 (.slice (some a) n cap) (.slice none 0 0)).run Tryz.prog w=.ok (.bool false) w by kernel_rfl)
  go_in
  go_wp2_with(at_builtin;refine X4 (m:=n) (c:=cap) (ys:=xs) (by_:=16) rfl rfl (QT _ _ _) ii hz h1 (by omega) (by omega) ?_;intro ad' cap' g ho hne);go_ret;rw [Nat.zero_add]at *
  exact⟨ad',cap',by simp,ho,by simp;exact hne (by simp)⟩
instance Zru:Jl 76 92 2 16:=Qj Tryz.underlying76 (by kernel_rfl) (by omega)
theorem Zmx(ad:Option Addr)(n cap:Nat)(xs:List (List Value))(W:World)[r:Zy 2 ad n cap xs W](hn:n<=1000000)(hz:∀ y∈xs,y.length=2)(h1:∀ y∈xs,∀ u∈y,u.oneCell'=true)(h0:ad=none->cap=0) :
  Calls Tryz.prog 23 #[.slice ad n cap] W λ e w'=>∃ ad' cap',e=.returned (.slice ad' n cap')/\ZC 92 2 ad' n cap' xs.flatten w' W/\(ad=none↔ad'=none):=by
 cases ad with
 |none =>
  obtain rfl:xs=[]:=by
   cases xs with
   |nil=>rfl
   |cons x l=>obtain⟨b,o,e,_⟩:=r.cells 0 x rfl;cases e
  obtain rfl:n=0:=r.len.symm;obtain rfl:=h0 rfl;have he:=λ w:World=>(show (binOp .eql 76 (.slice none 0 0) (.slice none 0 0)).run Tryz.prog w=.ok (.bool true) w by kernel_rfl)
  go_in
  go_wp2_with fail;go_ret;exact⟨none,0,rfl,ZC.nil _ _ _,by simp⟩
 |some a =>
  have he:=λ w:World=>(show (binOp .eql 76 (.slice (some a) n cap) (.slice none 0 0)).run Tryz.prog w=.ok (.bool false) w by kernel_rfl)
  go_in
  go_wp2_with(at_builtin;refine X4 (m:=n) (c:=cap) (ys:=xs) (by_:=16) rfl rfl (QT _ _ _) ii hz h1 (by omega) (by omega) ?_;intro ad' cap' g ho hne);go_ret;rw [Nat.zero_add]at *
  exact⟨ad',cap',by simp,ho,by simp;exact hne (by simp)⟩
instance Zr0:Jl 73 125 15 120:=Qj Tryz.underlying73 (by kernel_rfl) (by omega)
theorem Zpu(ad:Option Addr)(n cap:Nat)(xs:List (List Value))(W:World)[r:Zy 15 ad n cap xs W](hn:n<=1000000)(hz:∀ y∈xs,y.length=15)(h1:∀ y∈xs,∀ u∈y,u.oneCell'=true)(h0:ad=none->cap=0) :
  Calls Tryz.prog 158 #[.slice ad n cap] W λ e w'=>∃ ad' cap',e=.returned (.slice ad' n cap')/\ZC 125 15 ad' n cap' xs.flatten w' W/\(ad=none↔ad'=none):=by
 cases ad with
 |none =>
  obtain rfl:xs=[]:=by
   cases xs with
   |nil=>rfl
   |cons x l=>obtain⟨b,o,e,_⟩:=r.cells 0 x rfl;cases e
  obtain rfl:n=0:=r.len.symm;obtain rfl:=h0 rfl;have he:=λ w:World=>(show (binOp .eql 73 (.slice none 0 0) (.slice none 0 0)).run Tryz.prog w=.ok (.bool true) w by kernel_rfl)
  go_in
  go_wp2_with fail;go_ret;exact⟨none,0,rfl,ZC.nil _ _ _,by simp⟩
 |some a =>
  have he:=λ w:World=>(show (binOp .eql 73 (.slice (some a) n cap) (.slice none 0 0)).run Tryz.prog w=.ok (.bool false) w by kernel_rfl)
  go_in
  go_wp2_with(at_builtin;refine X4 (m:=n) (c:=cap) (ys:=xs) (by_:=120) rfl rfl (QT _ _ _) ii hz h1 (by omega) (by omega) ?_;intro ad' cap' g ho hne);go_ret;rw [Nat.zero_add]at *
  exact⟨ad',cap',by simp,ho,by simp;exact hne (by simp)⟩
instance ZrN:Jl 22 67 2 16:=Qj Tryz.underlying22 (by kernel_rfl) (by omega)
theorem Zmr(ad:Option Addr)(n cap:Nat)(xs:List (List Value))(W:World)[r:Zy 2 ad n cap xs W](hn:n<=1000000)(hz:∀ y∈xs,y.length=2)(h1:∀ y∈xs,∀ u∈y,u.oneCell'=true)(h0:ad=none->cap=0) :
  Calls Tryz.prog 88 #[.slice ad n cap] W λ e w'=>∃ ad' cap',e=.returned (.slice ad' n cap')/\ZC 67 2 ad' n cap' xs.flatten w' W/\(ad=none↔ad'=none):=by
 cases ad with
 |none =>
  obtain rfl:xs=[]:=by
   cases xs with
   |nil=>rfl
   |cons x l=>obtain⟨b,o,e,_⟩:=r.cells 0 x rfl;cases e
  obtain rfl:n=0:=r.len.symm;obtain rfl:=h0 rfl;have he:=λ w:World=>(show (binOp .eql 22 (.slice none 0 0) (.slice none 0 0)).run Tryz.prog w=.ok (.bool true) w by kernel_rfl)
  go_in
  go_wp2_with fail;go_ret;exact⟨none,0,rfl,ZC.nil _ _ _,by simp⟩
 |some a =>
  have he:=λ w:World=>(show (binOp .eql 22 (.slice (some a) n cap) (.slice none 0 0)).run Tryz.prog w=.ok (.bool false) w by kernel_rfl)
  go_in
  go_wp2_with(at_builtin;refine X4 (m:=n) (c:=cap) (ys:=xs) (by_:=16) rfl rfl (QT _ _ _) ii hz h1 (by omega) (by omega) ?_;intro ad' cap' g ho hne);go_ret;rw [Nat.zero_add]at *
  exact⟨ad',cap',by simp,ho,by simp;exact hne (by simp)⟩
theorem Zoe(ad:Option Addr)(n cap:Nat)(xs:List (List Value))(W:World)[r:Zy 1 ad n cap xs W](hn:n<=1000000)(hz:∀ y∈xs,y.length=1)(h1:∀ y∈xs,∀ u∈y,u.oneCell'=true)(h0:ad=none->cap=0) :
  Calls Tryz.prog 60 #[.slice ad n cap] W λ e w'=>∃ ad' cap',e=.returned (.slice ad' n cap')/\ZC 3 1 ad' n cap' xs.flatten w' W/\(ad=none↔ad'=none):=by
 cases ad with
 |none =>
  obtain rfl:xs=[]:=by
   cases xs with
   |nil=>rfl
   |cons x l=>obtain⟨b,o,e,_⟩:=r.cells 0 x rfl;cases e
  obtain rfl:n=0:=r.len.symm;obtain rfl:=h0 rfl;have he:=λ w:World=>(show (binOp .eql 36 (.slice none 0 0) (.slice none 0 0)).run Tryz.prog w=.ok (.bool true) w by kernel_rfl)
  go_in
  go_wp2_with fail;go_ret;exact⟨none,0,rfl,ZC.nil _ _ _,by simp⟩
 |some a =>
  have he:=λ w:World=>(show (binOp .eql 36 (.slice (some a) n cap) (.slice none 0 0)).run Tryz.prog w=.ok (.bool false) w by kernel_rfl)
  go_in
  go_wp2_with(at_builtin;refine X4 (m:=n) (c:=cap) (ys:=xs) (by_:=8) rfl rfl (QT _ _ _) ii hz h1 (by omega) (by omega) ?_;intro ad' cap' g ho hne);go_ret;rw [Nat.zero_add]at *
  exact⟨ad',cap',by simp,ho,by simp;exact hne (by simp)⟩
theorem Zja{f:FuncId}{args:Array Value}{v:Value}(h:∀ W,Calls Tryz.prog f args W (ZM v W))(p:SP):Tu f args p λ v' h=>v'=v/\p h :=
 λ W hp i s=>(h W).mono λ _ _ ⟨e,b⟩=>⟨v,e,Zg.below i ⟨rfl,s⟩ b⟩
set_option maxRecDepth 512 in
theorem Zjg(c:YG)(W:World):Calls Tryz.prog 359 #[.agg c.cl.toArray] W (ZM (.bool c.par) W):=by
 obtain⟨d,a,p,r⟩:=c;simp only [YG.cl]
 go_in
 go_wp2_with fail;go_ret;exact ZM.mk rfl grown
def izV(l:List Int):List Value:=l.map λ x=>.int .i64 x
def izC(l:List Int):List (List Value):=l.map λ x=>[.int .i64 x]
theorem Vw{blk cap:Nat}{d:List Int}{W:World}(h:Holds (Value.int .i64) W blk 0 d.toArray)(hb:blk<W.heap.size):Zy 1 (some ⟨blk,0,none⟩) d.length cap (izC d) W:=by
 refine⟨by simp [izC],λ k x hx=>⟨blk,0,rfl,⟨hb⟩,λ j v hj=>?_⟩⟩;have hk:k<d.length:=by have:=(List.getElem?_eq_some_iff.1 hx).1;simpa [izC]using this
 have ex:x=[.int .i64 d[k]]:=by
  have:(izC d)[k]?=some [.int .i64 d[k]]:=by simp [izC,hk]
  rw [this]at hx;injection hx with hx;exact hx.symm
 subst ex
 have hj0:j=0:=by
  have:=(List.getElem?_eq_some_iff.1 hj).1;simp at this;exact this
 subst hj0;have ev:v=.int .i64 d[k]:=by simpa using hj.symm
 have:=(h k (by simpa using hk)).1;rw [Nat.mul_one,Nat.add_zero,this,ev];simp [hk]
theorem ZjS(ad:Option Addr)(n cap:Nat)(L:List YG)(W:World)[h:Zy 4 ad n cap (Ym L) W](hn:n<=100)(h0:0<n) :
  Calls Tryz.prog 360 #[.slice ad n cap] W λ e w'=>∃ ad2 m cap2 ns,e=.returned (.slice (some ad2) m cap2)/\m<=n/\Zy 1 (some ad2) m cap2 (izC ns) w'/\∃ g,w'=gr W g:=by
 have hlen:L.length=n:=by have:=h.len;simpa [Ym]using this
 go_in
 go_wp2_with fail
 go_loopw [3,8] (λ v i wr=>∃(k:Nat)(ad2:Option Addr)(cap2:Nat),k<=n/\i=.int .i64 k/\v=.slice ad2 k cap2/\ZC 3 1 ad2 k cap2 (izV ((L.take k).map YG.dev)) wr W)
  (λ _ i _=>n-(intOf i).toNat)
 case atStart=>exact⟨0,none,0,Nat.zero_le _,rfl,rfl,ZC.nil _ _ _⟩
 case round =>
  obtain⟨k,ad2,cap2,hk,rfl,rfl,ho⟩:=hrel;obtain⟨g,rfl⟩:=ho.grw
  by_cases hlt:k<n
  ·obtain⟨c,hc⟩:∃ c,L[k]?=some c:=⟨_,List.getElem?_eq_getElem (by omega)⟩
   obtain⟨b,o,rfl,hb,c0,c1,c2,c3⟩:=jK h hc;have Hc:=Lib.hid hc;clear hc;go_wp2_with(at_builtin;(with_reducible apply Y2);(·exact rfl);(·exact rfl);(·exact ii);(·exact ii);(·exact ii);(·exact rfl);(·decide);(·omega);intro gA capA gW hOwn);refine⟨⟨k+1,_,_,hlt,by go_num,rfl,?_⟩,by simp [intOf];omega⟩;rw [List.take_add_one,Hc.out];simpa [izV]using hOwn
  ·obtain rfl:n=k:=by omega
   have zl:((L.take n).map YG.dev).length=n:=by simp;omega
   generalize (L.take n).map YG.dev=zs at *
   obtain⟨b,rfl⟩:∃ b,ad2=some ⟨b,0,none⟩:=by
    rcases ho.own.2 with ⟨_,h1⟩|⟨g,c,cur,e,_⟩
    ·omega
    ·injection e with e1;exact⟨g,e1⟩
   have hcap:n<=cap2:=by
    rcases ho.own.2 with ⟨_,h1⟩|⟨g,c,cur,e,_,_,h2,_⟩
    ·omega
    ·injection e with _ _ e3;omega
   have hbl:=ho.own.lt b rfl;obtain⟨f1,f2,f3⟩:=ho.facts
   have hH:Holds (Value.int .i64) (gr W g) b 0 zs.toArray:=λ j hj=>by
    have hj:j<zs.length:=by simpa using hj
    rw [Nat.zero_add];exact⟨f1 j _ (by simp [izV,hj]),f2 j⟩
   have SO:=Tryz.slices_Sort_int b 0 cap2 zs (gr W g) hH hbl.2 (by omega);rw [zl]at SO;have hM:(zs.mergeSort λ x y=>decide (x<=y)).length=n:=by rw [List.length_mergeSort,zl]
   have hHs:=λ q=>holds_putRow (Value.int .i64) (Sort.ahead (gr W g) q) b 0 zs.toArray (zs.mergeSort λ x y=>decide (x<=y)).toArray (holds_ahead _ _ q b 0 _ hH) (by simp)
   generalize (zs.mergeSort λ x y=>decide (x<=y))=ss at *
   clear f1 f2 hH;go_wp2_with fail;refine SO.mono ?_;rintro e w' ⟨rfl,q,os,rfl⟩;have hB0:Below W.heap.size W (putRow (Value.int .i64) (Sort.ahead (gr W g) q) b 0 ss.toArray):=Lib.below_putRow (Yb W g) hbl.1;have hsz:b<(putRow (Value.int .i64) (Sort.ahead (gr W g) q) b 0 ss.toArray).heap.size:=by simpa [putRow,mapBlock,Sort.ahead]using hbl.2
   have hH2:=holds_grow (Value.int .i64) _ os b 0 _ hsz (hHs q);have eg:∀(w:World)(os:Array Obj),grow w os=gr w ⟨w.drawn,os⟩:=λ w os=>by simp [gr,redrawn]
   have hB1:Below W.heap.size W (grow (putRow (Value.int .i64) (Sort.ahead (gr W g) q) b 0 ss.toArray) os):=by
    rw [eg];exact Jz hB0 hB0.size _
   have hs1:b<(grow (putRow (Value.int .i64) (Sort.ahead (gr W g) q) b 0 ss.toArray) os).heap.size:=by rw [eg,Yl];omega
   generalize grow (putRow (Value.int .i64) (Sort.ahead (gr W g) q) b 0 ss.toArray) os=V at *
   have CO:=Tryz.slices_Compact_int b 0 cap2 ss V hH2 (by omega) (by omega);rw [hM]at CO;have hml:(Lib.compact ss).length<=n:=by rw [<-hM];unfold Lib.compact Lib.compactUpTo;rw [List.length_map];exact Nat.le_trans (List.length_filter_le ..) (by simp)
   have hHc:=λ q=>holds_putRow (Value.int .i64) (Sort.ahead V q) b 0 ss.toArray (Lib.compact ss++List.replicate (n-(Lib.compact ss).length) 0).toArray (holds_ahead _ _ q b 0 _ hH2) (by simp;omega)
   generalize Lib.compact ss=cs at *
   clear SO hHs hH2 hB0 hsz;dsimp only;go_wp2_with fail;refine CO.mono ?_;rintro e w' ⟨rfl,q2,rfl⟩;have hB2:Below W.heap.size W (putRow (Value.int .i64) (Sort.ahead V q2) b 0 (cs++List.replicate (n-cs.length) 0).toArray):=Lib.below_putRow hB1 hbl.1;have R2:=Vw (cap:=cap2) (hHc q2) (by simpa [putRow,mapBlock,Sort.ahead]using hs1);generalize putRow (Value.int .i64) (Sort.ahead V q2) b 0 (cs++List.replicate (n-cs.length) 0).toArray=V2 at *
   clear CO hHc;dsimp only;go_wp2_with fail;go_ret;refine⟨_,_,_,cs,rfl,hml,⟨by simp [izC],λ k x hx=>R2.cells k x ?_⟩,Zf hB2⟩;rw [<-hx];simp only [izC,List.map_append];exact List.getElem?_append_left (by have:=(List.getElem?_eq_some_iff.1 hx).1;simpa [izC]using this)
end Go.Proofs.YtlfjdjndhcmliaaGreatDoor
