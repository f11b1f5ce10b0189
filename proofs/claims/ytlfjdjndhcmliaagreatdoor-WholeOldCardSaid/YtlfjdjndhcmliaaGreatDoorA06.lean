/- WholeOld, part 6. -/
import Derived.Test.YtlfjdjndhcmliaaGreatDoorA00
import Derived.Test.YtlfjdjndhcmliaaGreatDoorA01
import Derived.Test.YtlfjdjndhcmliaaGreatDoorA04
import Derived.Test.YtlfjdjndhcmliaaGreatDoorA02
import Derived.Laws.BitsAllLaws
import Derived.Laws.IdiomStrings
set_option maxRecDepth 100000
set_option maxHeartbeats 4000000
set_option linter.all false
namespace Go.Proofs.YtlfjdjndhcmliaaGreatDoor
open Go.RowKit Go.ChangeShapes Go.WideShapes Go.Joins
def JH(k v secs:Int):Int:=if k=1 then(secs-16)*v else secs-16
set_option maxRecDepth 512 in
theorem ZaY{s:ZO}{secs:Int}{n:Nat}(h:ZT s secs)(hn:n<s.len)(w:World)[m:GM s w] :
  Calls Tryz.prog 132 #[.agg #[.slice s.ad s.len s.cap,.int .i64 secs],.int .i64 (n:Int)] w (ZM (.int .i64 (JH (s.x n) (s.y n) secs)) w):=by
 have HH:=Lib.hid (λ(w:World) [GM s w]=>jT h hn w);have hw:=Yk h hn;have h3:=h.2.2.1;have h4:=h.2.2.2.1;have hl:=h.2.1;clear h;have hcx:=m.c0 n hn;have hcy:=m.c1 n hn;have hix:=K5 m hn;haveI hbo:=m.isOld hn;rcases hw.2.2 with hx|⟨hx,h3w⟩
 ·have e:=Lib.hid (show JH (s.x n) (s.y n) secs=secs-16 by unfold JH;rw [if_neg (by omega)]);have hx0:(s.x n==1)=false:=by rw [hx];rfl
  clear hx
  go_in
  go_wp2_with(go_at_call 183;with_reducible refine(Calls.at (HH.out _)).mono ?_;rintro e w' ⟨rfl,g,rfl⟩);go_ret;exact ZM.mk (by rw [e.out];rfl) grown
 ·have e:=Lib.hid (show JH (s.x n) (s.y n) secs=(secs-16)*s.y n by unfold JH;rw [if_pos hx]);have hx0:(s.x n==1)=true:=by rw [hx];rfl
  have hp:0<=(secs-16)*s.y n:=Int.mul_nonneg (by omega) (by omega)
  have hq:(secs-16)*s.y n<=9223372036854775807:=by
   have:(secs-16)*s.y n<=4080*8:=Int.mul_le_mul (by omega) (by omega) (by omega) (by omega);omega
  clear hx
  go_in
  go_wp2_with(go_at_call 183;with_reducible refine(Calls.at (HH.out _)).mono ?_;rintro e w' ⟨rfl,g,rfl⟩);go_ret;exact ZM.mk (by rw [e.out];rfl) grown
set_option maxRecDepth 512 in
theorem ZbQ{s:ZO}{secs n:Int}(h:¬ (ZT s secs/\0<=n/\n<s.len))(hs:s.len<=9223372036854775807)(w:World)[m:GM s w] :
  Calls Tryz.prog 132 #[.agg #[.slice s.ad s.len s.cap,.int .i64 secs],.int .i64 n] w (ZM (.int .i64 0) w):=by
 have HH:=Lib.hid (λ(w:World) [GM s w]=>qI h hs w);clear h
 go_in
 go_wp2_with(go_at_call 183;with_reducible refine(Calls.at (HH.out _)).mono ?_;rintro e w' ⟨rfl,g,rfl⟩);go_ret;exact ZM.mk rfl grown
def Xt(k v size:Int):Int:=if k=0 then size else(size+(size+v-2)/(v-1))+(size+(size+v-2)/(v-1))%2
set_option maxRecDepth 512 in
theorem ZeJ{s:ZO}{secs size:Int}{n:Nat}(h:ZT s secs)(hn:n<s.len)(z1:1<=size)(z2:size<=4)(w:World)[m:GM s w] :
  Calls Tryz.prog 186 #[.agg #[.slice s.ad s.len s.cap,.int .i64 secs],.int .i64 (n:Int),.int .i64 size] w (ZM (.int .i64 (Xt (s.x n) (s.y n) size)) w):=by
 have HH:=Lib.hid (λ(w:World) [GM s w]=>jT h hn w);have hw:=Yk h hn;have hl:=h.2.1;clear h;have hcx:=m.c0 n hn;have hcy:=m.c1 n hn;have hix:=K5 m hn;haveI hbo:=m.isOld hn;rcases hw.2.2 with hx|⟨hx,h3w⟩
 ·have e:=Lib.hid (show Xt (s.x n) (s.y n) size=size by unfold Xt;rw [if_pos hx]);have hx0:(s.x n==0)=true:=by rw [hx];rfl
  clear hx
  go_in
  go_wp2_with(go_at_call 183;with_reducible refine(Calls.at (HH.out _)).mono ?_;rintro e w' ⟨rfl,g,rfl⟩);go_ret;exact ZM.mk (by rw [e.out];rfl) grown
 ·have e:=Lib.hid (show Xt (s.x n) (s.y n) size=(size+(size+s.y n-2)/(s.y n-1))+(size+(size+s.y n-2)/(s.y n-1))%2 by unfold Xt;rw [if_neg (by omega)]);have hx0:(s.x n==0)=false:=by rw [hx];rfl
  clear hx;have q0:0<=(size+s.y n-2)/(s.y n-1):=Int.ediv_nonneg (by omega) (by omega);have q1:(size+s.y n-2)/(s.y n-1)<=size+s.y n-2:=Int.ediv_le_self _ (by omega)
  go_in
  go_wp2_with(go_at_call 183;with_reducible refine(Calls.at (HH.out _)).mono ?_;rintro e w' ⟨rfl,g,rfl⟩);go_ret;exact ZM.mk (by rw [e.out];rfl) grown
set_option maxRecDepth 512 in
theorem Zh4{s:ZO}{secs n size:Int}(h:¬ (ZT s secs/\0<=n/\n<s.len/\1<=size/\size<=4))(hs:s.len<=9223372036854775807)(w:World)[m:GM s w] :
  Calls Tryz.prog 186 #[.agg #[.slice s.ad s.len s.cap,.int .i64 secs],.int .i64 n,.int .i64 size] w (ZM (.int .i64 0) w):=by
 by_cases hh:ZT s secs/\0<=n/\n<s.len
 ·obtain⟨hg,h0,hn⟩:=hh;obtain⟨k,rfl⟩:=Int.eq_ofNat_of_zero_le h0;have HH:=Lib.hid (λ(w:World) [GM s w]=>jT hg (k:=k) (by omega) w)
  by_cases z1:1<=size
  ·have z2:¬ size<=4:=λ z2=>h ⟨hg,h0,hn,z1,z2⟩
   clear h hg
   go_in
   go_wp2_with(go_at_call 183;with_reducible refine(Calls.at (HH.out _)).mono ?_;rintro e w' ⟨rfl,g,rfl⟩);go_ret;exact ZM.mk rfl grown
  ·clear h hg
   go_in
   go_wp2_with(go_at_call 183;with_reducible refine(Calls.at (HH.out _)).mono ?_;rintro e w' ⟨rfl,g,rfl⟩);go_ret;exact ZM.mk rfl grown
 ·have HH:=Lib.hid (λ(w:World) [GM s w]=>qI hh hs w);clear h hh
  go_in
  go_wp2_with(go_at_call 183;with_reducible refine(Calls.at (HH.out _)).mono ?_;rintro e w' ⟨rfl,g,rfl⟩);go_ret;exact ZM.mk rfl grown
class Ky(s:ZO)(secs:Int):Prop where
 h:ZT s secs
def ZhL(s:ZO)(n:Int):Int:=if 0<=n/\n<s.len then YB s n.toNat else 0
def Q8(s:ZO)(secs n:Int):Int:=if 0<=n/\n<s.len then JH (s.x n.toNat) (s.y n.toNat) secs else 0
def Xu(s:ZO)(n size:Int):Int:=if 0<=n/\n<s.len/\1<=size/\size<=4 then Xt (s.x n.toNat) (s.y n.toNat) size else 0
section
variable(s:ZO)(secs n size:Int)(w:World)[m:GM s w][k:Ky s secs]
instance ZlP:Fn 13 #[.agg #[.slice s.ad s.len s.cap,.int .i64 secs]] w (.bool true):=⟨QR k.h w⟩
instance ZmQ:Fn 42 #[.agg #[.slice s.ad s.len s.cap,.int .i64 secs]] w (.int .i64 (YB s s.len)):=⟨ZgQ k.h w⟩
instance ZlD:Fn 256 #[.agg #[.slice s.ad s.len s.cap,.int .i64 secs],.int .i64 n] w (.int .i64 (ZhL s n)):=by
 have hl:=k.h.2.1
 by_cases h:0<=n/\n<s.len
 ·obtain⟨j,rfl⟩:=Int.eq_ofNat_of_zero_le h.1;rw [ZhL,if_pos h];exact⟨Ze2 k.h (by omega) w⟩
 ·rw [ZhL,if_neg h];exact⟨ZfV (λ a=>h ⟨a.2.1,a.2.2⟩) (by omega) w⟩
instance Zkq:Fn 132 #[.agg #[.slice s.ad s.len s.cap,.int .i64 secs],.int .i64 n] w (.int .i64 (Q8 s secs n)):=by
 have hl:=k.h.2.1
 by_cases h:0<=n/\n<s.len
 ·obtain⟨j,rfl⟩:=Int.eq_ofNat_of_zero_le h.1;rw [Q8,if_pos h];exact⟨ZaY k.h (by omega) w⟩
 ·rw [Q8,if_neg h];exact⟨ZbQ (λ a=>h ⟨a.2.1,a.2.2⟩) (by omega) w⟩
instance ZlY:Fn 186 #[.agg #[.slice s.ad s.len s.cap,.int .i64 secs],.int .i64 n,.int .i64 size] w (.int .i64 (Xu s n size)):=by
 have hl:=k.h.2.1
 by_cases h:0<=n/\n<s.len/\1<=size/\size<=4
 ·obtain⟨j,rfl⟩:=Int.eq_ofNat_of_zero_le h.1;rw [Xu,if_pos h];exact⟨ZeJ k.h (by omega) h.2.2.1 h.2.2.2 w⟩
 ·rw [Xu,if_neg h];exact⟨Zh4 (λ a=>h ⟨a.2.1,a.2.2.1,a.2.2.2.1,a.2.2.2.2⟩) (by omega) w⟩
end
end Go.Proofs.YtlfjdjndhcmliaaGreatDoor
namespace Go.Proofs.YtlfjdjndhcmliaaGreatDoor
open Go.RowKit Go.Sort
def XB(P:Program)(f:FuncId):Bool:=match P.funcs[f]? with
 | some fn => !(fn.name == "runtime.NumGoroutine") && fn.body.isSome
 |none=>false
theorem Zgw{P:Program}{f:FuncId}{xs:Array Operand}{ts:Array TypeId}{d:Option Tmp}{ty:TypeId}{pos:String}{aft:Array Edge}{a:Act}(hp:XB P f=true)(w:World) :
  (execOp a.eval { dst:=d,op:=.call { callee:=.value (.func f),args:=xs,argTypes:=ts },type:=ty,pos:=pos,after:=aft,guard:=none }).run P w=.ok (.enter f (xs.map a.eval)) w:=by
 unfold XB at hp;split at hp
 ·rename_i fn hf;simp only [Bool.and_eq_true,Bool.not_eq_true',Option.isSome_iff_exists]at hp;obtain⟨h1,c,h2⟩:=hp
  have h1 : ¬ fn.name = "runtime.NumGoroutine" := by simpa using h1
  simp [execOp,resolve,Deferred.ofValue,invoke,callFunc,hf,h1,h2,Act.eval]
 ·cases hp
theorem za{f:FuncId}{xs:Array Operand}{ts:Array TypeId}{d:Option Tmp}{ty:TypeId}{pos:String}{aft:Array Edge}{a:Act}{v:Value}{C:World->Prop}{N:Value->Prop}(hp:XB Tryz.prog f=true)(h:∀ w,C w->Fn f (xs.map a.eval) w v)(hn:N v) :
  ∃ v,(∀ w,C w->Oper.quietAt Tryz.prog { dst:=d,op:=.call { callee:=.value (.func f),args:=xs,argTypes:=ts },type:=ty,pos:=pos,after:=aft,guard:=none } a (YL w) w v)/\N v:=by
 refine⟨v,λ w hw=>?_,hn⟩;unfold Oper.quietAt;rw [Zgw hp];exact⟨rfl,(h w hw).own⟩
class Jl(ts:TypeId)(e:outParam TypeId)(z by_:outParam Nat):Prop where
 sl:Tryz.prog.underlying ts=some (.slice e)
 el:∃ i zr,Tryz.prog.info? e=some i/\i.zero=some zr/\i.size=z/\i.bytes=by_/\zr.cells.size=z
 pos:0<z
theorem Qj{ts e:TypeId}{z b:Nat}(h1:Tryz.prog.underlying ts=some (.slice e))(h2:(Tryz.prog.info? e).map (λ i=>(i.zero.map (λ v=>v.cells.size),i.size,i.bytes))=some (some z,z,b))(h3:0<z):Jl ts e z b:=by
 refine⟨h1,?_,h3⟩;cases hi:Tryz.prog.info? e with
 |none=>rw [hi]at h2;cases h2
 |some i =>
  rw [hi]at h2;simp only [Option.map_some,Option.some.injEq,Prod.mk.injEq,Option.map_eq_some_iff]at h2;obtain⟨⟨zr,h4,h5⟩,h6,h7⟩:=h2;exact⟨i,zr,rfl,h4,h6,h7,h5⟩
class Ut(v:Value):Prop where
 h:v.oneCell'=true
instance(k:IntKind)(x:Int):Ut (.int k x):=⟨rfl⟩
instance(x:Bool):Ut (.bool x):=⟨rfl⟩
instance(x:ByteArray):Ut (.string x):=⟨rfl⟩
instance(x:Option Addr)(n c:Nat):Ut (.slice x n c):=⟨rfl⟩
instance(x:Option Addr):Ut (.pointer x):=⟨rfl⟩
class Ur(l:List Value):Prop where
 h:∀ u∈l,u.oneCell'=true
instance:Ur []:=⟨λ u hu=>by cases hu⟩
instance(v:Value)(l:List Value)[a:Ut v][b:Ur l]:Ur (v::l):=⟨λ u hu=>by
 rcases List.mem_cons.1 hu with rfl|hu
 ·exact a.h
 ·exact b.h u hu⟩
instance(p:Pt):Ur p.cs.toList:=⟨Ql p⟩
class XP(b:Nat)(l:outParam (List Value))(W:World):Prop where
 old:Yc b W
 cell:∀(j:Nat)(v:Value),l[j]?=some v->W.cell? ⟨b,j,none⟩=some v
instance Zl4(W:World)(b:Nat)(l:List Value)(t:TypeId)[k:ZX W b]:XP b l (W.alloc (.cells l.toArray t)):=⟨ii,λ j v e=>by rw [Qc];simpa using e⟩
instance ZnG(W:World)(b:Nat)(p:Pt)(t:TypeId)[k:ZX W b]:XP b p.cs.toList (W.alloc (.cells p.cs t)):=⟨ii,λ j v e=>by rw [Qc];simpa using e⟩
instance Zno(W:World)(b:Nat)(l:List Value)(g:Gr)[h:XP b l W]:XP b l (gr W g):=by
 haveI:=h.old;exact⟨ii,λ j v e=>(Z7 ..).trans (h.cell j v e)⟩
class ZC(e:outParam TypeId)(z:outParam Nat)(ad:Option Addr)(n cap:outParam Nat)(xs:outParam (List Value))(W:World)(W1:outParam World):Prop where
 own:W.ownsRow W1.heap.size e z (.slice ad n cap) n xs
 grw:∃ g,W=gr W1 g
theorem ZC.nil(e:TypeId)(z:Nat)(W:World):ZC e z none 0 0 [] W W:=⟨World.ownsRow_nil _ _ _ _,Y1 W⟩
instance ZqL(e:TypeId)(z:Nat)(ad:Option Addr)(n cap:Nat)(xs:List Value)(W W1:World)(g:Gr)[h:ZC e z ad n cap xs W W1]:ZC e z ad n cap xs (gr W g) W1 :=
 ⟨KM h.own λ k hk=>XQ _ _ (h.own.lt k hk).2,by obtain⟨g',e⟩:=h.grw;exact⟨g'.seq g,by rw [e,ZW]⟩⟩
instance Zl2(e:TypeId)(z:Nat)(ad:Option Addr)(n cap:Nat)(xs:List Value)(W W1:World)(o:Obj)[h:ZC e z ad n cap xs W W1]:ZC e z ad n cap xs (W.alloc o) W1 :=
 ⟨h.own.alloc o,by obtain⟨g',e⟩:=h.grw;exact⟨_,by rw [e,ZK]⟩⟩
theorem ZfJ{ts e:TypeId}{z by_:Nat}[k:Jl ts e z by_]{W W1:World}{ad:Option Addr}{n cap b:Nat}{xs l:List Value}(ho:ZC e z ad n cap xs W W1)(hc:XP b l W)(hl:l.length=z)(h1:Ur l)(hn:n<=1000000)(hb:by_<=1000) :
  ∃ g' cap' W',(Builtin.append_ #[ts,ts] ts #[.slice ad n cap,.slice (some ⟨b,0,none⟩) 1 1]).run Tryz.prog W=.ok (.slice (some ⟨g',0,none⟩) (n+1) cap') W'/\ZC e z (some ⟨g',0,none⟩) (n+1) cap' (xs++l) W' W1:=by
 obtain⟨i,zr,hi,hz0,hz1,hz2,hz3⟩:=Jl.el (ts:=ts) (e:=e) (z:=z) (by_:=by_);have ksl:=Jl.sl (ts:=ts) (e:=e) (z:=z) (by_:=by_);have kpos:=Jl.pos (ts:=ts) (e:=e) (z:=z) (by_:=by_);obtain⟨g,hg⟩:=ho.grw;have hsz:W1.heap.size<=W.heap.size:=by rw [hg,Yl];omega
 obtain⟨v',W',hrun,hown',hgr,_⟩:=run_append_own (P:=Tryz.prog) W W1.heap.size ts ts e i zr z by_ ksl hi hz0 hz1 hz2 hz3 kpos _ n xs ho.own ⟨b,0,none⟩ 1 1 l (by omega)
  (λ j u hj=>by
   have e:(⟨b,0,none⟩:Addr).add j=⟨b,j,none⟩:=by unfold Addr.add;split<;>simp_all
   rw [e];exact hc.cell j u hj) h1.h (by unfold maxLen;omega) (by have:=Nat.mul_le_mul (show n+1<=1000001 by omega) hb;omega) hsz
 have hb:Below W1.heap.size W1 W':=Below.grown (by rw [hg];exact Yb _ _) hgr hsz (λ j hj=>(ho.own.lt j hj).1);rcases hown'.2 with ⟨_,h0⟩|⟨g',cap',cur',rfl,hb',hg',hle',hmx',hs',ht'⟩
 ·omega
 ·exact⟨g',cap',W',hrun,hown',Zf hb⟩
section
variable{ops:Array Oper}{rest:List Oper}{Q:Exit->Act->World->Prop}{a:Act}{w:World}{d:Option Tmp}{pos:String}{aft:Array Edge}
theorem Y2{ts e:TypeId}{z by_:Nat}[k:Jl ts e z by_]{x y:Operand}{W1:World}{ad:Option Addr}{n cap b:Nat}{xs l:List Value}(hx:a.eval x=.slice ad n cap)(hy:a.eval y=.slice (some ⟨b,0,none⟩) 1 1)
  (ho:ZC e z ad n cap xs w W1) (hc:XP b l w) (h1:Ur l) (hl:l.length=z) (hb:by_<=1000) (hn:n<=1000000)
  (h:∀ g' cap' g,ZC e z (some ⟨g',0,none⟩) (n+1) cap' (xs++l) (gr W1 g) W1->wpList Tryz.prog ops Q rest (a.put d (.slice (some ⟨g',0,none⟩) (n+1) cap')) (gr W1 g)) :
  wpList Tryz.prog ops Q ({ dst:=d,op:=.call { callee:=.builtin .append,args:=#[x,y],argTypes:=#[ts,ts] },type:=ts,pos:=pos,after:=aft,guard:=none }::rest) a w:=by
 obtain⟨g',cap',W',hr,ho'⟩:=ZfJ (ts:=ts) ho hc hl h1 hn hb;refine ZP rfl _ _ _ _ rfl _ _ hx hy hr ?_;obtain⟨g,rfl⟩:=ho'.grw;exact h g' cap' g ho'
end
class Zy(z:Nat)(ad:Option Addr)(n cap:Nat)(xs:outParam (List (List Value)))(W:World):Prop where
 len:xs.length=n
 cells:∀(k:Nat)(x:List Value),xs[k]?=some x->∃ b o,ad=some ⟨b,o,none⟩/\Yc b W/\∀(j:Nat)(v:Value),x[j]?=some v->W.cell? ⟨b,o+k*z+j,none⟩=some v
instance Zqo(z:Nat)(ad:Option Addr)(n cap:Nat)(xs:List (List Value))(W:World)(g:Gr)[h:Zy z ad n cap xs W]:Zy z ad n cap xs (gr W g):=⟨h.len,λ k x e=>by
 obtain⟨b,o,e1,e2,e3⟩:=h.cells k x e
 exact⟨b,o,e1,ii,λ j v e4=>(Z7 ..).trans (e3 j v e4)⟩⟩
instance Zmj(z:Nat)(ad:Option Addr)(n cap:Nat)(xs:List (List Value))(W:World)(ob:Obj)[h:Zy z ad n cap xs W]:Zy z ad n cap xs (W.alloc ob):=⟨h.len,λ k x e=>by
 obtain⟨b,o,e1,e2,e3⟩:=h.cells k x e
 exact⟨b,o,e1,ii,λ j v e4=>(QW ..).trans (e3 j v e4)⟩⟩
theorem QM:∀(xs:List (List Value)) (z k j:Nat) (x:List Value),(∀ y∈xs,y.length=z)->xs[k]?=some x->j<z->xs.flatten[k*z+j]?=x[j]?
 | [],_,_,_,_,_,e,_=>by simp at e
 |y::xs,z,0,j,x,hy,e,hj=>by
  have e:y=x:=by simpa using e
  subst e;rw [List.flatten_cons,Nat.zero_mul,Nat.zero_add,List.getElem?_append_left (by rw [hy y (by simp)];exact hj)]
 |y::xs,z,k+1,j,x,hy,e,hj=>by
  have hl:=hy y (by simp);rw [List.flatten_cons,List.getElem?_append_right (by rw [hl,Nat.add_mul];omega),hl,show (k+1)*z+j-z=k*z+j by rw [Nat.add_mul];omega];exact QM xs z k j x (λ y h=>hy y (by simp [h])) (by simpa using e) hj
theorem ZC.rd{e:TypeId}{z:Nat}{ad:Option Addr}{n cap:Nat}{xs:List (List Value)}{W W1:World}(h:ZC e z ad n cap xs.flatten W W1)(hl:xs.length=n)(hz:∀ x∈xs,x.length=z):Zy z ad n cap xs W:=by
 refine⟨hl,λ k x hx=>?_⟩;have hk:k<n:=by have:=(List.getElem?_eq_some_iff.1 hx).1;omega
 rcases h.own.2 with ⟨_,h0⟩|⟨g,cap',cur,hv,_,hg,_⟩
 ·omega
 ·have hv:ad=some ⟨g,0,none⟩:=by injection hv
  subst hv;refine⟨g,0,rfl,⟨(Array.getElem?_eq_some_iff.1 hg).1⟩,λ j v hj=>?_⟩;have hjz:j<z:=by rw [<-hz x (List.mem_of_getElem? hx)];exact(List.getElem?_eq_some_iff.1 hj).1
  have hc:=h.own.cells (g:=g) rfl (k*z+j) v (by rw [QM xs z k j x hz hx hjz];exact hj);have e:(⟨g,0,none⟩:Addr).add (k*z+j)=⟨g,0+k*z+j,none⟩:=by unfold Addr.add;split<;>simp_all
  rw [e]at hc;exact hc
structure YG where
 dev:Int
 at_:Int
 par:Bool
 row:Int
def YG.cl(c:YG):List Value:=[.int .i64 c.dev,.int .i64 c.at_,.bool c.par,.int .i64 c.row]
instance ZoX:Jl 328 370 4 32:=Qj Tryz.underlying328 (by kernel_rfl) (by omega)
def Zbr(first at_:Int)(size k:Nat):YG:=⟨first+(k/size:Nat),16+at_+(k%size:Nat),false,(k%size:Nat)⟩
def jw(f:Nat->YG)(n:Nat):List Value:=((List.range n).map λ k=>(f k).cl).flatten
theorem ZbZ(f:Nat->YG)(n:Nat):jw f (n+1)=jw f n++(f n).cl:=by simp [jw,List.range_succ]
set_option maxRecDepth 512 in
theorem Zel(first at_:Int)(wide size:Nat)(hw:wide<=8)(hs:size<=4)(hf:0<=first/\first<=100)(ha:0<=at_/\at_<=40000)(w:World) :
  Calls Tryz.prog 257 #[.int .i64 first,.int .i64 wide,.int .i64 at_,.int .i64 size] w λ e w'=>∃ ad cap,e=.returned (.slice ad (wide*size) cap)/\ZC 370 4 ad (wide*size) cap (jw (Zbr first at_ size) (wide*size)) w' w:=by
 obtain⟨hf0,hf1⟩:=hf;obtain⟨ha0,ha1⟩:=ha
 go_in
 go_wp2_with fail
 go_loopw [9,13] (λ v i wr=>∃(d:Nat)(ad:Option Addr)(cap:Nat),d<=wide/\i=.int .i64 d/\v=.slice ad (d*size) cap/\ZC 370 4 ad (d*size) cap (jw (Zbr first at_ size) (d*size)) wr w)
  (λ _ i _=>wide-(intOf i).toNat)
 case atStart=>exact⟨0,none,0,Nat.zero_le _,rfl,by rw [Nat.zero_mul],by rw [Nat.zero_mul];exact ZC.nil _ _ _⟩
 case round =>
  obtain⟨d,ad,cap,hd,rfl,rfl,ho⟩:=hrel;obtain⟨g,rfl⟩:=ho.grw
  by_cases hlt:d<wide
  ·go_wp2_with fail
   go_loopw [9,17] (λ v i wr=>∃(j:Nat)(ad:Option Addr)(cap:Nat),j<=size/\i=.int .i64 j/\v=.slice ad (d*size+j) cap/\ZC 370 4 ad (d*size+j) cap (jw (Zbr first at_ size) (d*size+j)) wr w)
    (λ _ i _=>size-(intOf i).toNat)
   case atStart=>exact⟨0,ad,cap,Nat.zero_le _,rfl,rfl,ho⟩
   case round =>
    clear ho;obtain⟨j,ad,cap,hj,rfl,rfl,ho⟩:=hrel;obtain⟨g,rfl⟩:=ho.grw
    by_cases hlj:j<size
    ·have hb:d*size+j<=1000000:=by
      have:=Nat.mul_le_mul (show d<=8 by omega) hs;omega
     have hd2:d<=8:=by omega
     go_wp2_with(at_builtin;(with_reducible apply Y2);(·exact rfl);(·exact rfl);(·exact ii);(·exact ii);(·exact ii);(·exact rfl);(·decide);(·omega);intro gA capA gW hOwn);refine⟨⟨j+1,_,_,hlj,by go_num,rfl,?_⟩,by simp [intOf];omega⟩
     have e:(d*size+j)/size=d/\(d*size+j)%size=j:=by
      rw [Nat.mul_comm,Nat.mul_add_div (by omega),Nat.mul_add_mod,Nat.div_eq_of_lt hlj,Nat.mod_eq_of_lt hlj];exact⟨rfl,rfl⟩
     rw [<-Nat.add_assoc,ZbZ];simp only [Zbr,e.1,e.2,YG.cl];exact hOwn
    ·obtain rfl:size=j:=by omega
     go_wp2_with fail;exact⟨⟨d+1,ad,cap,hlt,by go_num,by rw [Nat.add_mul,Nat.one_mul],by rw [Nat.add_mul,Nat.one_mul];exact ho⟩,by simp [intOf];omega⟩
  ·obtain rfl:wide=d:=by omega
   go_wp2_with fail;go_ret;exact⟨_,_,rfl,ho⟩
def jq(first:Int)(at_ wide k:Nat)(row:Int)(par:Bool):YG:=⟨first+((at_+k)%wide:Nat),16+((at_+k)/wide:Nat),par,row⟩
def Y6(first:Int)(at_ wide:Nat):Nat->List YG
 |0=>[]
 |i+1 =>
  let l:=Y6 first at_ wide i
  let l1:=if (i:Int)%((wide:Int)-1)=0 then l++[jq first at_ wide l.length ((i:Int)/((wide:Int)-1)) true]else l
  l1++[jq first at_ wide l1.length ((i:Int)/((wide:Int)-1)) false]
theorem Zdv(first:Int)(at_ wide:Nat):∀ i,(Y6 first at_ wide i).length<=2*i
 |0=>Nat.le_refl _
 |i+1=>by
  have:=Zdv first at_ wide i
  simp only [Y6];split<;>simp<;>omega
theorem yn{W:World}{B B':Nat}{e:TypeId}{sz:Nat}{v:Value}{n:Nat}{xs:List Value}(h:W.ownsRow B e sz v n xs)(hB:B'<=B):W.ownsRow B' e sz v n xs:=by
 refine⟨h.1,?_⟩;rcases h.2 with hn|⟨g,cap,cur,rfl,hb,hg,hrest⟩
 ·exact .inl hn
 ·exact .inr ⟨g,cap,cur,rfl,Nat.le_trans hB hb,hg,hrest⟩
def QY(l:List YG):List Value:=(l.map YG.cl).flatten
theorem ZbU(l:List YG)(c:YG):QY (l++[c])=QY l++c.cl:=by simp [QY]
theorem ZC.set{e:TypeId}{z:Nat}{ad:Option Addr}{n cap:Nat}{xs:List Value}{W1:World}{g:Gr}(h:ZC e z ad n cap xs (gr W1 g) W1)(b k:Nat)(v:Value)[o:Yc b W1]:ZC e z ad n cap xs (gr (W1.setCell ⟨b,k,none⟩ v) g) (W1.setCell ⟨b,k,none⟩ v):=by
 refine⟨?_,_,rfl⟩;rw [<-Zca,World.size_setCell];exact ownsRow_setCell_below h.own o.h v
set_option maxRecDepth 512 in
theorem add_at(W W1:World)(bA bO bF bW:Nat)(at_ wide:Nat)(first:Int)[oA:Yc bA W1][oO:Yc bO W1][oF:Yc bF W1][oW:Yc bW W1](ad:Option Addr)(n cap:Nat)
  (hA:W1.cell? ⟨bA,0,none⟩=some (.int .i64 at_)) (hO:W1.cell? ⟨bO,0,none⟩=some (.slice ad n cap)) (hF:W1.cell? ⟨bF,0,none⟩=some (.int .i64 first)) (hW:W1.cell? ⟨bW,0,none⟩=some (.int .i64 wide))
  (hz:W1.frozen? ⟨bO,0,none⟩=false) (l:List YG) (hl:l.length=n) (hn:n<=100) (hat:at_<=40000) (hw:3<=wide/\wide<=8) (hf:0<=first/\first<=100) (ho:ZC 370 4 ad n cap (QY l) W W1) (row:Int) (par:Bool) :
  Calls Tryz.prog 269 #[.int .i64 row,.bool par,.pointer (some ⟨bA,0,none⟩),.pointer (some ⟨bO,0,none⟩),.pointer (some ⟨bF,0,none⟩),.pointer (some ⟨bW,0,none⟩)] W λ e w'=>e=.returned (.tuple #[]) /\
   ∃ ad' cap' g',w'=gr (W1.setCell ⟨bO,0,none⟩ (.slice ad' (n+1) cap')) g'/\ZC 370 4 ad' (n+1) cap' (QY (l++[jq first at_ wide n row par])) w' (W1.setCell ⟨bO,0,none⟩ (.slice ad' (n+1) cap')):=by
 obtain⟨hw0,hw1⟩:=hw;obtain⟨hf0,hf1⟩:=hf;subst hl;obtain⟨g0,hg⟩:=ho.grw;have hA':W.cell? ⟨bA,0,none⟩=some (.int .i64 at_):=by rw [hg,Z7,hA]
 have hO':W.cell? ⟨bO,0,none⟩=some (.slice ad l.length cap):=by rw [hg,Z7,hO]
 have hF':W.cell? ⟨bF,0,none⟩=some (.int .i64 first):=by rw [hg,Z7,hF]
 have hW':W.cell? ⟨bW,0,none⟩=some (.int .i64 wide):=by rw [hg,Z7,hW]
 haveI:Yc bA W:=by rw [hg];infer_instance
 haveI:Yc bO W:=by rw [hg];infer_instance
 haveI:Yc bF W:=by rw [hg];infer_instance
 haveI:Yc bW W:=by rw [hg];infer_instance
 clear hg;have q1:0<=((at_:Int)+l.length)%wide/\((at_:Int)+l.length)%wide<wide:=⟨Int.emod_nonneg _ (by omega),Int.emod_lt_of_pos _ (by omega)⟩
 have q2:0<=((at_:Int)+l.length)/wide/\((at_:Int)+l.length)/wide<=(at_:Int)+l.length:=⟨Int.ediv_nonneg (by omega) (by omega),Int.ediv_le_self _ (by omega)⟩
 go_in
 go_wp2_with fail;refine plZ (.q [0,1,2,3,4,5,6,7,8,9,10,11,12] (.g 13 (.x [14,15] .d))) ?_;simp only [Zk.run,pick,gZ,gS,gA,gN]
 (repeat go_big_quiet_step (exact qZ));refine nZ ?_;rintro _ ⟨g,rfl⟩
 go_wp2_with fail;refine⟨⟨_,ZK _ _ _⟩,?_⟩;rintro _ ⟨g2,rfl⟩;go_wp2_with(at_builtin;(with_reducible apply Y2);(·exact rfl);(·exact rfl);(·exact ii);(·exact ii);(·exact ii);(·exact rfl);(·decide);(·omega);intro gA capA gW hOwn);rintro _ ⟨g3,rfl⟩;go_wp2_with fail;go_end0;refine⟨rfl,_,capA,_,by rw [ZW],?_⟩;rw [ZbU];haveI:=hOwn.set bO 0 (.slice (some ⟨gA,0,none⟩) (l.length+1) capA);have e:(jq first at_ wide l.length row par).cl=[.int .i64 (first+((at_:Int)+l.length)%wide),.int .i64 (16+((at_:Int)+l.length)/wide),.bool par,.int .i64 row]:=by simp [jq,YG.cl]
 rw [e];exact ii
abbrev Zfh(w:World)(first:Int)(wide at_:Nat)(ad:Option Addr)(n cap:Nat):World :=
 (((w.alloc (.cells #[.int .i64 first] 3)).alloc (.cells #[.int .i64 wide] 3)).alloc (.cells #[.int .i64 at_] 3)).alloc (.cells #[.slice ad n cap] 328)
theorem ZcO(w wr:World)(first:Int)(wide at_:Nat)(ad:Option Addr)(cap:Nat)(n:Nat)(l:List YG)(hl:l.length=n)(hn:n<=100)(hat:at_<=40000)(hw:3<=wide/\wide<=8)(hf:0<=first/\first<=100)
  (ho:ZC 370 4 ad n cap (QY l) wr (Zfh w first wide at_ ad n cap)) (row:Int) (par:Bool) :
  Calls Tryz.prog 269 #[.int .i64 row,.bool par,.pointer (some ⟨w.heap.size+1+1,0,none⟩),.pointer (some ⟨w.heap.size+1+1+1,0,none⟩),.pointer (some ⟨w.heap.size,0,none⟩),.pointer (some ⟨w.heap.size+1,0,none⟩)] wr λ e w'=>e=.returned (.tuple #[]) /\
   ∃ ad' cap' g',w'=gr (Zfh w first wide at_ ad' (n+1) cap') g'/\ZC 370 4 ad' (n+1) cap' (QY (l++[jq first at_ wide n row par])) w' (Zfh w first wide at_ ad' (n+1) cap'):=by
 refine(add_at wr _ _ _ _ _ at_ wide first ad n cap (by simp [go_sem]) (by simp [go_sem]) (by simp [go_sem]) (by simp [go_sem]) (by simp [go_sem]) l hl hn hat hw hf ho row par).mono ?_;rintro e w' ⟨rfl,ad',cap',g',rfl,h⟩;have e1:((((w.alloc (.cells #[.int .i64 first] 3)).alloc (.cells #[.int .i64 wide] 3)).alloc (.cells #[.int .i64 at_] 3)).alloc (.cells #[.slice ad n cap] 328)).setCell ⟨w.heap.size+1+1+1,0,none⟩ (.slice ad' (n+1) cap')=Zfh w first wide at_ ad' (n+1) cap':=by simp [go_sem,Zfh]
 rw [e1]at h ⊢;exact⟨rfl,ad',cap',g',rfl,h⟩
set_option maxRecDepth 512 in
theorem ZeD(first:Int)(at_ wide size:Nat)(hw:3<=wide/\wide<=8)(hs:size<=4)(hf:0<=first/\first<=100)(ha:at_<=40000)(w:World) :
  Calls Tryz.prog 258 #[.int .i64 first,.int .i64 wide,.int .i64 at_,.int .i64 size] w λ e w'=>∃ ad cap,e=.returned (.slice ad (Y6 first at_ wide size).length cap)/\ZC 370 4 ad (Y6 first at_ wide size).length cap (QY (Y6 first at_ wide size)) w' w:=by
 have HW:=Lib.hid hw;have HF:=Lib.hid hf;have hw0:=hw.1;have hw1:=hw.2;clear hw hf
 go_in
 go_wp2_with fail
 go_loopw [15] (λ i wr=>∃(j:Nat)(ad:Option Addr)(cap:Nat),j<=size/\i=.int .i64 j/\ZC 370 4 ad (Y6 first at_ wide j).length cap (QY (Y6 first at_ wide j)) wr (Zfh w first wide at_ ad (Y6 first at_ wide j).length cap))
  (λ i _=>size-(intOf i).toNat)
 case atStart=>exact⟨0,none,0,Nat.zero_le _,rfl,ZC.nil _ _ _⟩
 case round =>
  obtain⟨j,ad,cap,hj,rfl,ho⟩:=hrel;obtain⟨g,rfl⟩:=ho.grw
  by_cases hlt:j<size
  ·have hl:=Zdv first at_ wide j
   have q1:0<=(j:Int)/((wide:Int)-1)/\(j:Int)/((wide:Int)-1)<=j:=⟨Int.ediv_nonneg (by omega) (by omega),Int.ediv_le_self _ (by omega)⟩
   have q2:0<=(j:Int)%((wide:Int)-1)/\(j:Int)%((wide:Int)-1)<(wide:Int)-1:=⟨Int.emod_nonneg _ (by omega),Int.emod_lt_of_pos _ (by omega)⟩
   by_cases h0:(j:Int)%((wide:Int)-1)=0
   ·go_wp2_with fail;refine(ZcO w _ first wide at_ ad cap _ _ rfl (by omega) ha HW.out HF.out ho _ true).mono ?_;rintro e w' ⟨rfl,ad1,cap1,g1,rfl,ho1⟩;dsimp only;go_wp2_with fail;refine(ZcO w _ first wide at_ ad1 cap1 _ _ (by simp) (by omega) ha HW.out HF.out ho1 _ false).mono ?_;rintro e w' ⟨rfl,ad2,cap2,g2,rfl,ho2⟩;dsimp only;go_wp2_with fail;refine⟨⟨j+1,ad2,cap2,hlt,by go_num,?_⟩,by simp [intOf];omega⟩;have e:Y6 first at_ wide (j+1)=Y6 first at_ wide j++[jq first at_ wide (Y6 first at_ wide j).length ((j:Int)/((wide:Int)-1)) true]++[jq first at_ wide ((Y6 first at_ wide j).length+1) ((j:Int)/((wide:Int)-1)) false]:=by simp [Y6,h0]
    rw [e];simp only [List.length_append,List.length_singleton];exact ho2
   ·go_wp2_with fail;refine(ZcO w _ first wide at_ ad cap _ _ rfl (by omega) ha HW.out HF.out ho _ false).mono ?_;rintro e w' ⟨rfl,ad2,cap2,g2,rfl,ho2⟩;dsimp only;go_wp2_with fail;refine⟨⟨j+1,ad2,cap2,hlt,by go_num,?_⟩,by simp [intOf];omega⟩;have e:Y6 first at_ wide (j+1)=Y6 first at_ wide j++[jq first at_ wide (Y6 first at_ wide j).length ((j:Int)/((wide:Int)-1)) false]:=by simp [Y6,h0]
    rw [e];simp only [List.length_append,List.length_singleton];exact ho2
  ·obtain rfl:size=j:=by omega
   go_wp2_with fail;go_ret;refine⟨ad,cap,rfl,?_,?_⟩
   ·exact yn ho.own (by simp;omega)
   ·exact Zf grown
section
variable(s:ZO)(secs grp at_ size:Int)[k:Ky s secs]
theorem Zdc:0<=Q8 s secs grp/\Q8 s secs grp<=40000:=by
 have h3:=k.h.2.2.1;have h4:=k.h.2.2.2.1;unfold Q8;split
 ·rename_i h;have hw:=Yk k.h (k:=grp.toNat) (by omega);unfold JH;split
  ·constructor
   ·exact Int.mul_nonneg (by omega) (by omega)
   ·have:=Int.mul_le_mul (show secs-16<=4080 by omega) (show s.y grp.toNat<=8 by omega) (by omega) (by omega);omega
  ·omega
 ·omega
include k in
theorem zK:0<=Xu s grp size/\Xu s grp size<=50:=by
 unfold Xu;split
 ·rename_i h;have hw:=Yk k.h (k:=grp.toNat) (by omega);unfold Xt;split
  ·omega
  ·have q0:0<=(size+s.y grp.toNat-2)/(s.y grp.toNat-1):=Int.ediv_nonneg (by omega) (by omega);have q1:(size+s.y grp.toNat-2)/(s.y grp.toNat-1)<=size+s.y grp.toNat-2:=Int.ediv_le_self _ (by omega);omega
 ·omega
def XG:Bool:=decide (0<Xu s grp size)&&(decide (0<=at_)&&decide (at_<=Q8 s secs grp-Xu s grp size))
set_option maxRecDepth 512 in
instance Zov(w:World)[m:GM s w]:Fn 255 #[.agg #[.slice s.ad s.len s.cap,.int .i64 secs],.agg #[.int .i64 grp,.int .i64 at_],.int .i64 size] w (.bool (XG s secs grp at_ size)):=by
 refine⟨?_⟩;have b0:=Zdc s secs grp;have b1:=zK s secs grp size;unfold XG
 by_cases h0:0<Xu s grp size
 ·rw [decide_eq_true h0]
  by_cases h1:0<=at_
  all_goals
   first|rw [decide_eq_true h1]|(have h1:=decide_eq_false h1;rw [h1])
   go_in
   go_wp2_with(with_reducible refine Fn.go λ g=>?_);refine plZ (.q [0,1,2,3,4,5,6,7,8,9,10,11,12,13,14,15,16,17,18] .d) ?_;simp only [Zk.run,pick,gZ,gS,gA,gN]
   (repeat go_big_quiet_step (exact qZ));refine nZ ?_;rintro _ ⟨g,rfl⟩
   go_wp2_with fail;go_ret;exact ZM.mk rfl grown
 ·have h0:=decide_eq_false h0;rw [h0]
  go_in
  go_wp2_with(with_reducible refine Fn.go λ g=>?_);refine plZ (.q [0,1,2,3,4,5,6,7,8,9,10,11,12,13,14,15,16,17,18] .d) ?_;simp only [Zk.run,pick,gZ,gS,gA,gN]
  (repeat go_big_quiet_step (exact qZ));refine nZ ?_;rintro _ ⟨g,rfl⟩
  go_wp2_with fail;go_ret;exact ZM.mk rfl grown
end
theorem ZC.lower{e:TypeId}{z:Nat}{ad:Option Addr}{n cap:Nat}{xs:List Value}{W W1 W0:World}(h:ZC e z ad n cap xs W W1)(hb:∃ g,W1=gr W0 g):ZC e z ad n cap xs W W0:=by
 obtain⟨g,rfl⟩:=hb;obtain⟨g',hg⟩:=h.grw;exact⟨yn h.own (by rw [Yl];omega),_,by rw [hg,ZW]⟩
def Zz(s:ZO)(grp at_ size:Int):List YG :=
 if s.x grp.toNat=0 then(List.range ((s.y grp.toNat).toNat*size.toNat)).map (Zbr (YB s grp.toNat) at_ size.toNat)else Y6 (YB s grp.toNat) at_.toNat (s.y grp.toNat).toNat size.toNat
theorem Xg{s:ZO}{secs grp at_ size:Int}[k:Ky s secs](h:XG s secs grp at_ size=true):(0<=grp/\grp<s.len)/\(1<=size/\size<=4)/\0<=at_/\at_<=40000:=by
 have b0:=Zdc s secs grp;have b1:=zK s secs grp size;simp only [XG,Bool.and_eq_true,decide_eq_true_eq]at h;obtain⟨h1,h2,h3⟩:=h
 have h4:0<=grp/\grp<s.len/\1<=size/\size<=4:=by
  false_or_by_contra
  rename_i hh;rw [Xu,if_neg hh]at h1;omega
 exact⟨⟨h4.1,h4.2.1⟩,h4.2.2,h2,by omega⟩
set_option maxRecDepth 512 in
theorem kR(s:ZO)(secs grp at_ size:Int)[k:Ky s secs](w:World)[m:GM s w] :
  Calls Tryz.prog 227 #[.agg #[.slice s.ad s.len s.cap,.int .i64 secs],.agg #[.int .i64 grp,.int .i64 at_],.int .i64 size] w λ e w' =>
   (XG s secs grp at_ size=true->∃ ad cap,e=.returned (.tuple #[.slice ad (Zz s grp at_ size).length cap,.int .i64 0])/\ZC 370 4 ad (Zz s grp at_ size).length cap (QY (Zz s grp at_ size)) w' w) /\
   (XG s secs grp at_ size=false->e=.returned (.tuple #[.slice none 0 0,.int .i64 1])/\∃ g,w'=gr w g):=by
 by_cases hm:XG s secs grp at_ size=true
 ·obtain⟨⟨g0,g1⟩,⟨z0,z1⟩,a0,a1⟩:=Xg hm;obtain⟨n,rfl⟩:=Int.eq_ofNat_of_zero_le g0;have hn:n<s.len:=by omega
  have hw:=Yk k.h hn;have hs:=XA k.h n (by omega);have hlen:=k.h.2.1;have hcx:=m.c0 n hn;have hcy:=m.c1 n hn;have hix:=K5 m hn;haveI hbo:=m.isOld hn;obtain⟨wd,hwd⟩:=Int.eq_ofNat_of_zero_le (show 0<=s.y n by omega);obtain⟨z,rfl⟩:=Int.eq_ofNat_of_zero_le (show 0<=size by omega);obtain⟨t,rfl⟩:=Int.eq_ofNat_of_zero_le a0;have hfi:ZhL s n=YB s n:=by unfold ZhL;rw [if_pos (by omega)];rfl
  rw [hwd]at hcy;rcases hw.2.2 with hx|⟨hx,h3w⟩
  ·have hc:Zz s (n:Int) (t:Int) (z:Int)=(List.range (wd*z)).map (Zbr (YB s n) t z):=by
    unfold Zz;simp [hx,hwd]
   rw [hx]at hcx;have HM:=λ w=>Zel (YB s n) t wd z (by omega) (by omega) (by omega) (by omega) w
   go_in
   go_wp2_with(with_reducible refine Fn.go λ g=>?_);refine plZ (.q [0,1,2,3,4,5,6,7,8] (.c 9 (.g 10 (.x [11] (.q [12] .d))))) ?_;simp only [Zk.run,pick,gZ,gS,gA,gN]
   (repeat go_big_quiet_step (exact qZ));refine nZ ?_
   (with_reducible apply za);(·kernel_rfl);(·rintro _ ⟨gC,rfl⟩;simp [Act.eval];exact inferInstance)
   rintro _ ⟨g1,rfl⟩;rw [hfi];go_wp2_with fail;refine⟨⟨_,ZK _ _ _⟩,?_⟩;rintro _ ⟨g2,rfl⟩;go_wp2_with fail;dsimp only [Nx]
   (repeat go_big_quiet_step (exact qZ));refine nZ ?_
   rintro _ ⟨g3,rfl⟩;go_wp2_with fail;refine(HM _).mono ?_;rintro e w' ⟨ad,cap,rfl,ho⟩;obtain⟨g4,rfl⟩:=ho.grw;dsimp only;go_wp2_with fail;go_ret2;refine⟨λ _=>⟨ad,cap,by rw [hc];simp,?_⟩,λ h=>absurd (hm.symm.trans h) (by simp)⟩;rw [hc];have ho:=ho.lower (W0:=w) (Zf grown);simpa [jw,QY,List.map_map,Function.comp_def]using ho
  ·have hc:Zz s (n:Int) (t:Int) (z:Int)=Y6 (YB s n) t wd z:=by
    unfold Zz;simp [hx,hwd]
   rw [hx]at hcx;have HM:=λ w=>ZeD (YB s n) t wd z (by omega) (by omega) (by omega) (by omega) w
   go_in
   go_wp2_with(with_reducible refine Fn.go λ g=>?_);refine plZ (.q [0,1,2,3,4,5,6,7,8] (.c 9 (.g 10 (.x [11] (.q [12] .d))))) ?_;simp only [Zk.run,pick,gZ,gS,gA,gN]
   (repeat go_big_quiet_step (exact qZ));refine nZ ?_
   (with_reducible apply za);(·kernel_rfl);(·rintro _ ⟨gC,rfl⟩;simp [Act.eval];exact inferInstance)
   rintro _ ⟨g1,rfl⟩;rw [hfi];go_wp2_with fail;refine⟨⟨_,ZK _ _ _⟩,?_⟩;rintro _ ⟨g2,rfl⟩;go_wp2_with fail;dsimp only [Nx]
   (repeat go_big_quiet_step (exact qZ));refine nZ ?_
   rintro _ ⟨g3,rfl⟩;go_wp2_with fail;refine(HM _).mono ?_;rintro e w' ⟨ad,cap,rfl,ho⟩;obtain⟨g4,rfl⟩:=ho.grw;dsimp only;go_wp2_with fail;go_ret2;refine⟨λ _=>⟨ad,cap,by rw [hc];simp,?_⟩,λ h=>absurd (hm.symm.trans h) (by simp)⟩;rw [hc];have ho:=ho.lower (W0:=w) (Zf grown);simpa [jw,QY,List.map_map,Function.comp_def]using ho
 ·have hm:XG s secs grp at_ size=false:=by simpa using hm
  go_in
  go_wp2_with(with_reducible refine Fn.go λ g=>?_);go_ret2;exact⟨λ h=>absurd (hm.symm.trans h) (by simp),λ _=>⟨rfl,Zf grown⟩⟩
class ElZ(ts:TypeId)(e:outParam TypeId)(v:outParam Value):Prop where
 sl:Tryz.prog.underlying ts=some (.slice e)
 el:∃ i,Tryz.prog.info? e=some i/\i.zero=some v/\i.size=1/\i.bytes<=1000
 one:v.cells=#[v]
theorem VK{ts e:TypeId}{v:Value}{b:Nat}(h1:Tryz.prog.underlying ts=some (.slice e))(h2:(Tryz.prog.info? e).map (λ i=>(i.zero,i.size,i.bytes))=some (some v,1,b))(h3:b<=1000)(h4:v.cells=#[v]):ElZ ts e v:=by
 refine⟨h1,?_,h4⟩;cases hi:Tryz.prog.info? e with
 |none=>rw [hi]at h2;cases h2
 |some i =>
  rw [hi]at h2;simp only [Option.map_some,Option.some.injEq,Prod.mk.injEq]at h2;exact⟨i,rfl,h2.1,h2.2.1,by omega⟩
instance Zrp:ElZ 99 5 (.int .u8 0):=VK Tryz.underlying99 (b:=1) (by kernel_rfl) (by omega) rfl
instance ZqS:ElZ 101 9 (.string ⟨#[]⟩):=VK Tryz.underlying101 (b:=16) (by kernel_rfl) (by omega) rfl
instance Zq7:Jl 99 5 1 1:=Qj Tryz.underlying99 (by kernel_rfl) (by omega)
instance ZrP:Jl 101 9 1 16:=Qj Tryz.underlying101 (by kernel_rfl) (by omega)
instance Zrb:Jl 36 3 1 8:=Qj Tryz.underlying36 (by kernel_rfl) (by omega)
section
variable{ops:Array Oper}{rest:List Oper}{Q:Exit->Act->World->Prop}{a:Act}{w:World}{d:Option Tmp}{ty:TypeId}{pos:String}{aft:Array Edge}
theorem YP{ts e:TypeId}{v:Value}[k:ElZ ts e v]{x y:Operand}{kl kc:IntKind}{n:Nat}(hx:a.eval x=.int kl (n:Int))(hy:a.eval y=.int kc (n:Int))(hn:n<=1000000)
  (h:∀ g,ZC e 1 (some ⟨w.heap.size,0,none⟩) n n (List.replicate n v) (gr w g) w->wpList Tryz.prog ops Q rest (a.put d (.slice (some ⟨w.heap.size,0,none⟩) n n)) (gr w g)) :
  wpList Tryz.prog ops Q ({ dst:=d,op:=.makeSlice ts x y,type:=ty,pos:=pos,after:=aft,guard:=none }::rest) a w:=by
 obtain⟨i,hi,hz,hs,hb⟩:=ElZ.el (ts:=ts) (e:=e) (v:=v);refine wpList_make_full w rfl x y ts rfl w.heap.size e i v 1 (ElZ.sl (v:=v)) hi hz hs kl kc _ _ n hx hy rfl rfl (by have:=Nat.mul_le_mul hb hn;omega) (by unfold maxLen;omega) (Nat.le_refl _) ?_;intro w' ho hg;obtain⟨g,rfl⟩:=Zf (Below.grown (Below.refl w.heap.size w) hg (Nat.le_refl _) (λ k hk=>by cases hk));rw [ElZ.one (ts:=ts) (e:=e) (v:=v),Nat.mul_one,toList_madeCells_one]at ho;exact h g ⟨ho,g,rfl⟩
end
theorem ZC.put{e:TypeId}{g n cap:Nat}{xs:List Value}{W W1:World}(h:ZC e 1 (some ⟨g,0,none⟩) n cap xs W W1)(k:Nat)(v:Value):ZC e 1 (some ⟨g,0,none⟩) n cap (xs.set k v) (W.setCell ⟨g,k,none⟩ v) W1:=by
 obtain⟨g',hg⟩:=h.grw;have hb:=(h.own.lt g rfl).1;refine⟨(h.own.stored k v).1,Zf ?_⟩;exact Below.setCell (by rw [hg];exact Yb _ _) hb v
theorem ZC.facts{e:TypeId}{g n cap:Nat}{xs:List Value}{W W1:World}(h:ZC e 1 (some ⟨g,0,none⟩) n cap xs W W1):(∀(k:Nat)(v:Value),xs[k]?=some v->W.cell? ⟨g,k,none⟩=some v)/\(∀ k:Nat,W.frozen? ⟨g,k,none⟩=false)/\Yc g W:=by
 refine⟨λ k v hk=>?_,λ k=>h.own.frozenAt k,⟨(h.own.lt g rfl).2⟩⟩;have hl:=h.own.1;rw [h.own.cellAt k (by have:=(List.getElem?_eq_some_iff.1 hk).1;omega)];exact hk
def byV(l:List UInt8):List Value:=l.map λ b=>.int .u8 b.toNat
def ZG(l:List ByteArray):List (List Value):=l.map λ s=>[.string s]
def qD(a b:List UInt8):List UInt8:=List.zipWith (·^^^ ·) a b
def KF(m:Nat)(l:List ByteArray):List UInt8:=l.foldl (λ a s=>qD a s.data.toList) (List.replicate m 0)
theorem ZgK(x y:UInt8):bits .xor .u8 (x.toNat:Int) (y.toNat:Int)=((x^^^y).toNat:Int):=by
 rw [u8_xor_nat _ _ x.toNat_lt y.toNat_lt,UInt8.toNat_xor]
theorem ky(m:Nat):∀(l:List ByteArray),(∀ s∈l,s.size=m)->(KF m l).length=m:=by
 have key:∀(l:List ByteArray)(a:List UInt8),a.length=m->(∀ s∈l,s.size=m)->(l.foldl (λ a s=>qD a s.data.toList) a).length=m:=by
  intro l
  induction l with
  |nil=>exact λ a h _=>h
  |cons s l ih =>
   intro a ha hl;refine ih _ ?_ λ s hs=>hl s (by simp [hs])
   have:=hl s (by simp);rw [<-Zi]at this;simp [qD,ha,this]
 exact λ l hl=>key l _ (by simp) hl
def pX(a s:List UInt8)(i:Nat):List UInt8:=(qD a s).take i++a.drop i
theorem Zdw(a s:List UInt8)(k:Nat)(ha:k<=a.length)(hs:k<=s.length):((qD a s).take k).length=k:=by simp [qD];omega
theorem Zlt(a s:List UInt8)(k:Nat)(ha:k<a.length)(hs:k<s.length):(byV (pX a s k))[k]?=some (.int .u8 (a[k]).toNat):=by
 have e2:=Zdw a s k (by omega) (by omega);unfold byV pX;rw [List.getElem?_map,List.getElem?_append_right (by omega),e2,Nat.sub_self,List.drop_eq_getElem_cons ha];rfl
theorem ZiN(a s:List UInt8)(k:Nat)(ha:k<a.length)(hs:k<s.length):(byV (pX a s k)).set k (.int .u8 ((a[k]^^^s[k]).toNat))=byV (pX a s (k+1)):=by
 have e2:=Zdw a s k (by omega) (by omega);have hz:k<(qD a s).length:=by simp [qD];omega
 have e1:(qD a s).take (k+1)=(qD a s).take k++[a[k]^^^s[k]]:=by rw [List.take_succ_eq_append_getElem hz];simp [qD]
 unfold byV pX;rw [<-List.map_set (f:=λ b:UInt8=>Value.int .u8 (b.toNat:Int)),e1,List.set_append_right _ _ (by omega),e2,Nat.sub_self,List.drop_eq_getElem_cons ha,List.set_cons_zero];simp
theorem Zky(a s:List UInt8)(h:s.length=a.length):pX a s a.length=qD a s:=by
 unfold pX;rw [List.drop_length,List.append_nil,List.take_of_length_le (by simp [qD];omega)]
theorem ZdW(m:Nat)(L:List ByteArray)(j:Nat)(t:ByteArray)(h:L[j]?=some t):KF m (L.take (j+1))=qD (KF m (L.take j)) t.data.toList:=by
 unfold KF;rw [List.take_add_one,h];simp
theorem Zll(ad:Option Addr)(n cap:Nat)(l:List ByteArray)(W:World)[h:Zy 1 ad n cap (ZG l) W](m:Nat)(hm:m<=65536)(h0:0<n)(hn:n<=1000)(hl:∀ s∈l,s.size=m) :
  Fn 347 #[.slice ad n cap] W (.string ⟨(KF m l).toArray⟩):=by
 refine⟨?_⟩;have hlen:l.length=n:=by have:=h.len;simpa [ZG]using this
 obtain⟨s0,l',rfl⟩:∃ s0 l',l=s0::l':=by
  cases l with
  |nil=>simp at hlen;omega
  |cons a b=>exact⟨a,b,rfl⟩
 have hs0:=hl s0 (by simp);obtain⟨b,o,rfl,hbo,hc⟩:=h.cells 0 [.string s0] rfl;have c0:W.cell? ⟨b,o,none⟩=some (.string s0):=by have:=hc 0 _ rfl;simpa using this
 clear hc;generalize hL:s0::l'=L at *
 go_in
 go_wp2_with((with_reducible apply YP);(·exact rfl);(·exact rfl);(·omega);intro gM hMk)
 go_loopw [14] (λ i wr=>∃ j:Nat,j<=n/\i=.int .i64 j/\ZC 5 1 (some ⟨W.heap.size,0,none⟩) m m (byV (KF m (L.take j))) wr W)
  (λ i _=>n-(intOf i).toNat)
 case atStart=>exact⟨0,Nat.zero_le _,rfl,by simpa [byV,KF]using hMk⟩
 case round =>
  clear hMk;obtain⟨j,hj,rfl,ho⟩:=hrel;obtain⟨g,rfl⟩:=ho.grw
  by_cases hlt:j<n
  ·obtain⟨t,ht⟩:∃ t,L[j]?=some t:=⟨_,List.getElem?_eq_getElem (by omega)⟩
   obtain⟨b',o',hbb,hb',hc⟩:=h.cells j [.string t] (by simp [ZG,ht]);cases hbb;have ct:W.cell? ⟨b,o+j,none⟩=some (.string t):=by have:=hc 0 _ rfl;simpa using this
   have htl:=hl t (List.mem_of_getElem? ht);have hal:(KF m (L.take j)).length=m:=ky m _ λ s hs=>hl s (List.mem_of_mem_take hs)
   go_wp2_with fail
   go_loopw [20] (λ i wr=>∃ k:Nat,k<=m/\i=.int .i64 k/\ZC 5 1 (some ⟨W.heap.size,0,none⟩) m m (byV (pX (KF m (L.take j)) t.data.toList k)) wr W)
    (λ i _=>m-(intOf i).toNat)
   case atStart=>exact⟨0,Nat.zero_le _,rfl,by simpa [pX]using ho⟩
   case round =>
    clear ho;obtain⟨k,hk,rfl,ho⟩:=hrel;obtain⟨g,rfl⟩:=ho.grw;obtain⟨f1,f2,f3⟩:=ho.facts
    by_cases hlk:k<m
    ·have hka:k<(KF m (L.take j)).length:=by omega
     have hks:k<t.data.toList.length:=by rw [Zi];omega
     have hb0:=f1 k _ (Zlt _ _ k hka hks);have hf0:=f2 k;have hlk':k<t.size:=by omega
     clear f1 f2;generalize hV:gr W g=V at *
     go_wp2_with fail;refine plZ (.q [0,1,2,3,4,5,6,7,8] (.x [9] .d)) ?_;simp only [Zk.run,pick,gZ,gS,gA,gN]
     (repeat go_big_quiet_step (exact qZ));refine nZ ?_
     rintro _ ⟨g1,rfl⟩;go_wp2_with fail;rintro _ ⟨g2,rfl⟩;go_wp2_with fail;refine⟨⟨k+1,hlk,by go_num,?_⟩,by simp [intOf];omega⟩;have e:(t[k]'hlk')=t.data.toList[k]:=by simp [ByteArray.getElem_eq_getElem_data]
     rw [e,ZgK,<- ZiN _ _ k hka hks];haveI:=ho.put k (.int .u8 (((KF m (L.take j))[k]^^^t.data.toList[k]).toNat));exact ii
    ·obtain rfl:m=k:=by omega
     clear f1 f2 f3;go_wp2_with fail;refine⟨⟨j+1,hlt,by go_num,?_⟩,by simp [intOf];omega⟩;rw [ZdW _ _ _ _ ht,<- Zky _ _ (by rw [Zi,hal,htl]),hal];exact ho
  ·obtain rfl:n=j:=by omega
   have hconv:(convert 99 9 (.slice (some ⟨W.heap.size,0,none⟩) m m)).run Tryz.prog (gr W g)=.ok (.string ⟨(KF m L).toArray⟩) (gr W g):=by
    obtain⟨f1,_,_⟩:=ho.facts;have hal:=ky m L hl;rw [List.take_of_length_le (by omega)]at f1
    have:=run_convert_bytes_back (P:=Tryz.prog) (gr W g) 99 9 5 ⟨W.heap.size,0,none⟩ m (KF m L) Tryz.underlying99 Tryz.underlying5 Tryz.underlying9 λ i hi=>by
     have e:(⟨W.heap.size,0,none⟩:Addr).add i=⟨W.heap.size,i,none⟩:=by unfold Addr.add;split<;>simp_all
     rw [e];exact f1 i _ (by rw [byV,List.getElem?_map,List.getElem?_eq_getElem hi];rfl)
    rwa [hal]at this
   go_wp2_with fail;go_ret;exact⟨rfl,Yb _ _⟩
end Go.Proofs.YtlfjdjndhcmliaaGreatDoor
namespace Go.Proofs.YtlfjdjndhcmliaaGreatDoor
def qd(l:List ByteArray):Bool:=l.all λ s=>s.size==(l.headD ⟨#[]⟩).size
def zZ(l:List ByteArray):ByteArray:=if l.isEmpty||!qd l then⟨#[]⟩else⟨(KF (l.headD ⟨#[]⟩).size l).toArray⟩
theorem Zb5(m:Nat)(l:List ByteArray)(h0:l≠[])(h:∀ s∈l,s.size=m):(zZ l).size=m:=by
 obtain⟨a,l',rfl⟩:∃ a l',l=a::l':=by cases l with|nil=>exact absurd rfl h0|cons a b=>exact⟨a,b,rfl⟩
 have ha:=h a (by simp)
 have he:qd (a::l')=true:=by
  unfold qd;rw [List.all_eq_true];intro s hs;simp [h s hs,ha]
 have:=ky m _ h
 have e:zZ (a::l')=⟨(KF a.size (a::l')).toArray⟩:=by
  unfold zZ;rw [he];rfl
 rw [e,ha];simpa [ByteArray.size]using this
def JT(L:List YG)(i:Nat):Nat:=(L.take i).countP λ c=>!c.par
def e1(L:List YG)(D:List ByteArray)(i:Nat):ByteArray:=match L[i]? with
 |some c=>if c.par then⟨#[]⟩else D.getD (JT L i%D.length) ⟨#[]⟩
 |none=>⟨#[]⟩
def isRow(L:List YG)(no:Int)(i:Nat):Bool:=match L[i]? with
 |some c=>(c.row==no)&&!c.par
 |none=>false
def JJ(L:List YG)(no:Int)(n:Nat):List Nat:=(List.range n).filter (isRow L no)
def e2(L:List YG)(D:List ByteArray)(i:Nat):ByteArray:=match L[i]? with
 |some c=>if c.par then zZ ((JJ L c.row L.length).map (e1 L D))else e1 L D i
 |none=>⟨#[]⟩
def XT(L:List YG)(D:List ByteArray):List ByteArray:=(List.range L.length).map (e2 L D)
def Kn(n:Nat)(f z:Nat->ByteArray)(k:Nat):List ByteArray:=(List.range n).map λ i=>if i<k then f i else z i
theorem zw{n:Nat}{f z:Nat->ByteArray}{k i:Nat}(h:i<n):(Kn n f z k)[i]?=some (if i<k then f i else z i):=by
 simp [Kn,h]
theorem Ziq{n:Nat}{f z f' z':Nat->ByteArray}{k k':Nat}(h:∀ i,i<n->(if i<k then f i else z i)=(if i<k' then f' i else z' i)):Kn n f z k=Kn n f' z' k':=by
 unfold Kn;apply List.map_congr_left;intro i hi;exact h i (by simpa using hi)
theorem Vp{n:Nat}{f z:Nat->ByteArray}{k:Nat}:(Kn n f z k).set k (f k)=Kn n f z (k+1):=by
 apply List.ext_getElem?;intro i;rw [List.getElem?_set]
 by_cases hi:i<n
 ·rw [zw hi,zw hi]
  by_cases hk:k=i
  ·subst hk;simp [Kn,hi]
  ·rw [if_neg hk];congr 1;split<;>split<;>first|rfl|omega
 ·have h1:∀ k,(Kn n f z k)[i]?=none:=λ k=>by simp [Kn];omega
  rw [h1,h1];split
  ·split<;>first|rfl|(rename_i h2;simp [Kn]at h2;omega)
  ·rfl
theorem ZbB{n:Nat}{f z:Nat->ByteArray}{k:Nat}(h:k<n->f k=z k):Kn n f z (k+1)=Kn n f z k:=Ziq λ i hi=>by
 by_cases hk:i=k
 ·subst hk;simp [h hi]
 ·split<;>split<;>first|rfl|omega
theorem VO{n:Nat}{f z:Nat->ByteArray}:Kn n f z n=(List.range n).map f:=by
 unfold Kn;exact List.map_congr_left λ i hi=>by rw [if_pos (by simpa using hi)]
theorem kQ{n:Nat}{f z:Nat->ByteArray}:Kn n f z 0=(List.range n).map z:=by simp [Kn]
theorem jc{L:List YG}{i:Nat}{c:YG}(h:L[i]?=some c):JT L (i+1)=JT L i+(if c.par then 0 else 1):=by
 unfold JT;rw [List.take_add_one,h];cases hp:c.par<;>simp [hp]
theorem Zc8(L:List YG)(i:Nat):JT L i<=i:=by
 unfold JT;exact Nat.le_trans List.countP_le_length (by simp;omega)
theorem Zaf{L:List YG}{D:List ByteArray}(h0:D≠[])(hD:∀ s∈D,s.size=64){i:Nat}{c:YG}(h:L[i]?=some c)(hp:c.par=false):(e1 L D i).size=64:=by
 have:0<D.length:=List.length_pos_iff.2 h0;have hm:JT L i%D.length<D.length:=Nat.mod_lt _ this;simp only [e1,h,hp];rw [List.getD_eq_getElem?_getD,List.getElem?_eq_getElem hm];exact hD _ (List.getElem_mem hm)
def Ku(L:List YG):Prop:=∀ c∈L,c.par=true->∃ d∈L,d.par=false/\d.row=c.row
theorem zg{L:List YG}{no:Int}{i:Nat}:i∈JJ L no L.length↔∃ c,L[i]?=some c/\c.row=no/\c.par=false:=by
 unfold JJ isRow;rw [List.mem_filter,List.mem_range];constructor
 ·rintro⟨h1,h2⟩;rw [List.getElem?_eq_getElem h1]at h2 ⊢;exact⟨_,rfl,by simpa using h2⟩
 ·rintro⟨c,h1,h2,h3⟩;refine⟨(List.getElem?_eq_some_iff.1 h1).1,?_⟩;simp [h1,h2,h3]
theorem kH{L:List YG}{D:List ByteArray}(h0:D≠[])(hD:∀ s∈D,s.size=64)(hr:Ku L):∀ s∈XT L D,s.size=64:=by
 intro s hs;obtain⟨i,hi,rfl⟩:=List.mem_map.1 hs;have hi:i<L.length:=by simpa using hi
 have hc:=List.getElem?_eq_getElem hi;unfold e2;rw [hc];dsimp only;split
 ·rename_i hp;obtain⟨d,hd,hd1,hd2⟩:=hr _ (List.getElem_mem hi) hp;obtain⟨j,hj⟩:=List.getElem?_of_mem hd;have hm:j∈JJ L L[i].row L.length:=zg.2 ⟨d,hj,hd2,hd1⟩;refine Zb5 64 _ (λ e=>?_) ?_
  ·have:=List.mem_map_of_mem (f:=e1 L D) hm;rw [e]at this;cases this
  ·intro s hs;obtain⟨k,hk,rfl⟩:=List.mem_map.1 hs;obtain⟨c,h1,_,h3⟩:=zg.1 hk;exact Zaf h0 hD h1 h3
 ·rename_i hp;exact Zaf h0 hD hc (by simpa using hp)
theorem zM(L:List YG)(D:List ByteArray):(XT L D).length=L.length:=by simp [XT]
theorem ZdD{L:List YG}{D:List ByteArray}{i:Nat}{c:YG}(h:L[i]?=some c)(hp:c.par=false):(XT L D)[i]?=some (D.getD (JT L i%D.length) ⟨#[]⟩):=by
 have hi:=(List.getElem?_eq_some_iff.1 h).1;have e:(XT L D)[i]?=some (e2 L D i):=by simp [XT,hi]
 rw [e];simp only [e2,h,hp,e1];rfl
theorem Zbh(first:Int)(at_ wide:Nat):∀ i,Ku (Y6 first at_ wide i)
 |0=>λ c hc=>by cases hc
 |i+1=>by
  have ih:=Zbh first at_ wide i
  intro c hc hp;simp only [Y6]at hc ⊢
  have key:∀ l1:List YG,∀ x:YG,x.par=false->x.row=(i:Int)/((wide:Int)-1)->(∀ c∈l1,c.par=true->(∃ d∈l1,d.par=false/\d.row=c.row)\/c.row=x.row)->c∈l1++[x]->∃ d∈l1++[x],d.par=false/\d.row=c.row:=by
   intro l1 x hx hr h hc;rcases List.mem_append.1 hc with hc|hc
   ·rcases h c hc hp with ⟨d,h1,h2⟩|h1
    ·exact⟨d,by simp [h1],h2⟩
    ·exact⟨x,by simp,hx,h1.symm⟩
   ·have:c=x:=by simpa using hc
    rw [this,hx]at hp;cases hp
  refine key _ _ rfl rfl ?_ hc;intro c hc hp;split at hc
  ·rename_i hm;rw [if_pos hm];rcases List.mem_append.1 hc with hc|hc
   ·obtain⟨d,h1,h2⟩:=ih c hc hp;exact .inl ⟨d,by simp [h1],h2⟩
   ·have h2:=List.mem_singleton.1 hc;exact .inr (by rw [h2];rfl)
  ·rename_i hm;rw [if_neg hm];exact .inl (ih c hc hp)
theorem Zax(first:Int)(at_ wide:Nat):∀ i,(Y6 first at_ wide i).countP (λ c=>!c.par)=i
 |0=>rfl
 |i+1=>by
  have ih:=Zax first at_ wide i
  simp only [Y6];split<;>simp [ih,jq]
end Go.Proofs.YtlfjdjndhcmliaaGreatDoor
