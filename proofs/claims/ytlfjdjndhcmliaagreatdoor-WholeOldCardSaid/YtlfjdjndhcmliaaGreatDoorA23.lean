/- WholeOld, part 23. -/
import Derived.Test.YtlfjdjndhcmliaaGreatDoorA17
set_option maxRecDepth 100000
set_option maxHeartbeats 4000000
set_option linter.all false
namespace Go.Proofs.YtlfjdjndhcmliaaGreatDoor
open Go.RowKit Go.Sort
theorem Bt.rot{W w:World}{h:Hl}(bs l2:List SP)(B:Bt W h (bs++l2) w):Bt W h (star l2::bs) w:=(B.perm List.perm_append_comm).app l2
theorem Bt.unrot{W w:World}{h:Hl}{bs l2:List SP}(B:Bt W h (star l2::bs) w):Bt W h (bs++l2) w:=B.flat.perm List.perm_append_comm
theorem Bt.drop1{W w:World}{h:Hl}{a p:SP}{l:List SP}(B:Bt W h (a::p::l) w):Bt W h (a::l) w:=(B.perm (.swap ..)).drop
class Zgk(l:List SP)(p q:SP)(bs:outParam (List SP)):Prop where
 e:l=bs++[p,q]
instance ZnH(p q:SP):Zgk [p,q] p q []:=⟨rfl⟩
instance(priority:=low) Zng(r:SP)(l:List SP)(p q:SP)(bs:List SP)[k:Zgk l p q bs]:Zgk (r::l) p q (r::bs):=⟨by rw [k.e];rfl⟩
theorem Bt.call2{f:FuncId}{args:Array Value}{p1 p2:SP}{R:Value->SP->Prop}(t:Tq f args (star [p1,p2]) R){W w:World}{h:Hl}{l bs:List SP}[B:Bt W h l w][m:Zgk l p1 p2 bs]:Calls Tryz.prog f args w λ e w'=>∃ v q,e=.returned v/\R v q/\Bt W h (q::bs) w':=by
 haveI B':Bt W h (star [p1,p2]::bs) w:=Bt.rot bs _ (m.e▸B);exact Bt.call (B:=B') t
class ZgS(l:List SP)(e:TypeId)(z:Nat)(ad:Option Addr)(n cap:Nat)(L:outParam (List (List Value)))(k:outParam (SP->List SP)):Prop where
 e:∃ i:Nat,l[i]?=some (Zw e z ad n cap L)/\∀ q,k q=l.set i q
instance Zmw(l:List SP)(e:TypeId)(z:Nat)(ad:Option Addr)(n cap:Nat)(L:List (List Value)):ZgS (Zw e z ad n cap L::l) e z ad n cap L (λ q=>q::l):=⟨0,rfl,λ _=>rfl⟩
instance(priority:=low) Zmz(r:SP)(l:List SP)(e:TypeId)(z:Nat)(ad:Option Addr)(n cap:Nat)(L:List (List Value))(f:SP->List SP)[k:ZgS l e z ad n cap L f]:ZgS (r::l) e z ad n cap L (λ q=>r::f q):=by obtain⟨i,e,h⟩:=k.e;exact⟨i+1,e,λ q=>by rw [h];rfl⟩
section
variable{ops:Array Oper}{rest:List Oper}{Q:Exit->Act->World->Prop}{a:Act}{w:World}{d:Option Tmp}{pos:String}{aft:Array Edge}
theorem ZI{ts e:TypeId}{z by_:Nat}[k:Jl ts e z by_]{x y:Operand}{W1:World}{h0:Hl}{l:List SP}{kf:SP->List SP}{ad:Option Addr}{n cap b:Nat}{L:List (List Value)}{v:List Value}[B:Bt W1 h0 l w](hx:a.eval x=.slice ad n cap)(hy:a.eval y=.slice (some ⟨b,0,none⟩) 1 1)
  (he:ZgS l e z ad n cap L kf) (hc:XP b v w) (h1:Ur v) (hl:v.length=z) (hb:by_<=136) (hn:n<=1000000000000)
  (h:∀ g' cap' w',Bt W1 h0 (kf (Zw e z (some ⟨g',0,none⟩) (n+1) cap' (L++[v]))) w'->wpList Tryz.prog ops Q rest (a.put d (.slice (some ⟨g',0,none⟩) (n+1) cap')) w') :
  wpList Tryz.prog ops Q ({ dst:=d,op:=.call { callee:=.builtin .append,args:=#[x,y],argTypes:=#[ts,ts] },type:=ts,pos:=pos,after:=aft,guard:=none }::rest) a w:=by
 obtain⟨i,hi,hk⟩:=he.e;obtain⟨m',h1',j,x',s⟩:=B.t;obtain⟨h0,p0,s0,cc⟩:=s.focus hi;haveI:=j.sub s0;obtain⟨g',cap',W',hr,T⟩:=Zbk (ts:=ts) p0 w hc hl h1 hn hb;refine ZP rfl _ _ _ _ rfl _ _ hx hy (hr _) (h g' cap' W' ?_);rw [hk];exact⟨Zg.after m' x' ((T.frame j s0).mono λ h' ⟨h1,q1,q2,q3⟩=>cc _ h1 h' q1 q2 q3)⟩
theorem ZiS(w:World)(p:Pt):(Instr.buildSlice 149 1 #[(0,.agg p.cs)]).run Tryz.prog w=.ok (.slice (some ⟨w.heap.size,0,none⟩) 1 1) (w.alloc (.cells p.cs 50)):=by kernel_rfl
theorem YS{ty:TypeId}{x:Operand}{p:Pt}(hx:a.eval x=.agg p.cs)(h:wpList Tryz.prog ops Q rest (a.put d (.slice (some ⟨w.heap.size,0,none⟩) 1 1)) (w.alloc (.cells p.cs 50))) :
  wpList Tryz.prog ops Q ({ dst:=d,op:=.buildSlice 149 1 #[(0,x)],type:=ty,pos:=pos,after:=aft,guard:=none }::rest) a w:=by
 refine Ya rfl ?_ h;simp only [execOp,List.map_toArray,List.map_cons,List.map_nil,hx,Sem.run_bind,ZiS w p,Result.andThen_ok,Sem.run_pure]
end
instance ZqO:Jl 149 50 12 96:=Qj Tryz.underlying149 (by kernel_rfl) (by omega)
def KS.on(K:KS)(X:List Pt):KS:=λ q t=>K q t/\q∈X
theorem KS.on_le{K:KS}{X Y:List Pt}(h:∀ q∈X,q∈Y):(K.on X).le (K.on Y):=λ q t ⟨a,b⟩=>⟨a,h q b⟩
def Y8(X:List Pt):List (List Value):=X.map λ p=>p.cs.toList
def cA:Nat->Nat
 |0=>1
 |n+1=>1+4*cA n
def Zmu(K:KS)(n:Nat)(p:Pt)(g:Nat->UInt8)(X:List Pt):Prop:=X.length<=cA n/\(∀ q∈X,q.isNone=false/\∃ t,K q t)/\Tr (K.on X) n p g
theorem zo{K:KS}{c n m:Nat}{S:KS->Nat->SP}{W w1 w5:World}{h:Hl}{l:Nat->Pt}{p:Pt}{gg:Nat->UInt8}{L:List (List Value)}{X Y:List Pt}{ad2:Option Addr}{cap2 k i:Nat}{u:Value}
  (B:Bt W h [Zd w1.heap.size (YN l) 265,Zd W.heap.size p.cs 50,S K c,Zw 50 12 ad2 (m+1+X.length+Y.length) cap2 (L++[p.cs.toList]++Y8 X++Y8 Y)] w5) (hX:X.length<=k*cA n) (hY:Y.length<=cA n)
  (hXh:∀ q∈X,q.isNone=false/\∃ t,K q t) (hYh:∀ q∈Y,q.isNone=false/\∃ t,K q t) (hXt:∀ j,j<k->Tr (K.on X) n (l j) λ x=>gg (span n*j+x)) (hYt:Tr (K.on Y) n (l k) λ x=>gg (span n*k+x)) (hk:k<4:=by omega) (hu:u=.int .i64 (k+1:Nat):=by rfl) (hm:4-(intOf u).toNat<4-i:=by simp [intOf]) :
  (∃(k:Nat)(X':List Pt)(ad':Option Addr)(cap':Nat),k<=4/\u=.int .i64 k/\Value.slice ad2 (m+1+X.length+Y.length) cap2=.slice ad' (m+1+X'.length:Nat) cap'/\X'.length<=k*cA n/\(∀ q∈X',q.isNone=false/\∃ t,K q t)/\(∀ j,j<k->Tr (K.on X') n (l j) λ x=>gg (span n*j+x))/\Bt W h [Zd w1.heap.size (YN l) 265,Zd W.heap.size p.cs 50,S K c,Zw 50 12 ad' (m+1+X'.length) cap' (L++[p.cs.toList]++Y8 X')] w5)/\4-(intOf u).toNat<4-i:=by
 have e1:m+1+(X++Y).length=m+1+X.length+Y.length:=by rw [List.length_append];omega
 have e2:L++[p.cs.toList]++Y8 (X++Y)=L++[p.cs.toList]++Y8 X++Y8 Y:=by simp [Y8]
 refine⟨⟨k+1,X++Y,ad2,cap2,hk,hu,by rw [e1],?_,λ q hq=>?_,λ j hj=>?_,by rw [e1,e2];exact B⟩,hm⟩
 ·rw [List.length_append,Nat.add_mul];omega
 ·rcases List.mem_append.1 hq with hq|hq
  ·exact hXh q hq
  ·exact hYh q hq
 ·rcases Nat.lt_succ_iff_lt_or_eq.1 hj with h1|rfl
  ·exact(hXt j h1).mono (KS.on_le λ q hq=>by simp [hq])
  ·exact hYt.mono (KS.on_le λ q hq=>by simp [hq])
section
variable{st:Nat}{S:KS->Nat->SP}(T:VT st S)
include T
theorem ZkF:∀(n:Nat)(K:KS)(c:Nat)(p:Pt)(g:Nat->UInt8)(ad:Option Addr)(m cap:Nat) (L:List (List Value)),Tr K n p g->n<=3->m+cA n<=1000000 ->
  Tq 177 #[Jv st,.agg p.cs,.slice ad m cap] (star [S K c,Zw 50 12 ad m cap L]) λ v q=>∃(X:List Pt)(ad':Option Addr)(cap':Nat),(v=.tuple #[.slice ad' (m+X.length:Nat) cap',.int .i64 0]/\q=star [S K c,Zw 50 12 ad' (m+X.length) cap' (L++Y8 X)])/\Zmu K n p g X:=by
 intro n
 induction n with
 |zero =>
  intro K c p g ad m cap L t hn hm;refine Tq.of λ W h B0=>?_
  have B:=B0.flat;clear B0;simp only [List.append_nil]at B;cases hp:p.isNone
  ·have HN:∀ w,Fn 169 #[.agg p.cs] w (.bool false):=λ w=>by have e:=Y4 p w;rw [hp]at e;exact e
   have hl:p.level=0:=by
    rcases t.lv with rfl|h
    ·rw [Pt.none_isNone]at hp;cases hp
    ·exact h.2.1
   have Hp:=Lib.hid hp;clear hp
   go_in
   go_wp2_with(first|(at_builtin;(with_reducible apply ZI);(·exact rfl);(·exact rfl);(·exact ii);(·exact ii);(·exact ii);(·exact rfl);(·decide);(·omega);intro gA capA wA bA;(try dsimp only at bA))|(with_reducible refine Fn.go λ g=>?_)|((with_reducible apply Za);(·exact rfl);(·exact ii))|((with_reducible apply YS);(·exact rfl)));go_ret2;refine⟨_,_,rfl,⟨[p],_,_,⟨rfl,rfl⟩,Nat.le_refl 1,λ q hq=>?_,?_⟩,(Bt.drop (Bt.drop bA)).t⟩
   ·obtain rfl:=List.mem_singleton.1 hq;refine⟨Hp.out,?_⟩;rcases t.lv with rfl|h
    ·have:=Hp.out;rw [Pt.none_isNone]at this;cases this
    ·exact h.2.2
   ·rcases t with ⟨rfl,_⟩|⟨a,b,t',c',d,e⟩
    ·have:=Hp.out;rw [Pt.none_isNone]at this;cases this
    ·exact .inr ⟨a,b,t',⟨c',by simp⟩,d,e⟩
  ·obtain rfl:=(Pt.isNone_iff p).1 hp;clear hp
   go_in
   go_wp2_with(first|(with_reducible refine Fn.go λ g=>?_)|((with_reducible apply Za);(·exact rfl);(·exact ii)));go_ret2;exact⟨_,_,rfl,⟨[],_,_,⟨rfl,by simp [Y8]⟩,Nat.zero_le _,(λ q hq=>by cases hq),Tr.zero _ λ j hj=>t.zeros j hj⟩,(Bt.drop ii).t⟩
 |succ n ih =>
  intro K c p gg ad m cap L t hn hm;have hcA:cA (n+1)=1+4*cA n:=rfl;refine Tq.of λ W h B0=>?_
  have B:=B0.flat;clear B0;simp only [List.append_nil]at B;cases hp:p.isNone
  ·have HN:∀ w,Fn 169 #[.agg p.cs] w (.bool false):=λ w=>by have e:=Y4 p w;rw [hp]at e;exact e
   have hl:p.level=(n:Int)+1:=by
    rcases t.lv with rfl|h
    ·rw [Pt.none_isNone]at hp;cases hp
    ·exact h.2.1
   have e0:((n:Int)+1==0)=false:=by rw [beq_eq_false_iff_ne];omega
   have LK:=zh T K c t (by omega);have Hp:=Lib.hid hp;clear hp
   go_in
   go_wp2_with(first|(at_builtin;(with_reducible apply ZI);(·exact rfl);(·exact rfl);(·exact ii);(·exact ii);(·exact ii);(·exact rfl);(·decide);(·omega);intro gA capA wA bA;(try dsimp only at bA))|(with_reducible refine Fn.go λ g=>?_)|((with_reducible apply Za);(·exact rfl);(·exact ii))|((with_reducible apply YS);(·exact rfl)));refine(Bt.call LK).mono ?_;rintro e w1 ⟨v,q,rfl,⟨l,⟨rfl,rfl⟩,hf,⟨_,hx⟩,ht⟩,B1⟩;dsimp only at B1 ⊢;have Hx:=Lib.hid (hx Hp.out);clear hx;go_wp2_with((with_reducible apply Za);(·exact rfl);(·exact ii))
   go_loopw [2,33] (λ ov i wr=>∃(k:Nat)(X:List Pt)(ad':Option Addr)(cap':Nat),k<=4/\i=.int .i64 k/\ov=.slice ad' (m+1+X.length:Nat) cap'/\X.length<=k*cA n/\(∀ q∈X,q.isNone=false/\∃ t,K q t)/\(∀ j,j<k->Tr (K.on X) n (l j) λ x=>gg (span n*j+x))/\Bt W h [Zd w1.heap.size (YN l) 265,Zd W.heap.size p.cs 50,S K c,Zw 50 12 ad' (m+1+X.length) cap' (L++[p.cs.toList]++Y8 X)] wr)
    (λ _ i _=>4-(intOf i).toNat)
   case atStart=>exact⟨0,[],_,_,by omega,rfl,rfl,Nat.zero_le _,(λ q hq=>by cases hq),(λ j hj=>by omega),by simp only [Y8,List.map_nil,List.append_nil];exact Bt.drop1 ii⟩
   case round =>
    clear B B1 bA;obtain⟨k,X,ad',cap',hk,rfl,rfl,hX,hheld,hd,B⟩:=hrel;have hl':=ht;have Hl:=Lib.hid ht;clear ht
    by_cases hk4:k<4
    ·have hcA3:k*cA n<=3*cA n:=Nat.mul_le_mul_right _ (by omega);rcases(show k=0\/k=1\/k=2\/k=3 by omega)with rfl|rfl|rfl|rfl
     ·have tk:=(hl' 0 (by omega))
      have IH:=ih K c (l 0) _ ad' (m+1+X.length) cap' (L++[p.cs.toList]++Y8 X) tk (by omega) (by omega)
      have hnl:(l 0).isNone=true\/(l 0).isNone=false/\(l 0).level=(n:Int):=by
       rcases tk.lv with h|h
       ·exact .inl ((Pt.isNone_iff _).2 h)
       ·exact .inr ⟨h.1,h.2.1⟩
      have Hd:=Lib.hid hd;clear hd tk;rcases hnl with hnl|⟨hnl,hlv⟩
      all_goals
       have HN2:∀ w,Fn 169 #[.agg (l 0).cs] w (.bool (l 0).isNone):=λ w=>Y4 _ w
       rw [hnl]at HN2;have Hnl:=Lib.hid hnl;clear hnl
       try(have hlv2:((l 0).level !=(n:Int))=false:=by simp [hlv])
       try clear hlv
       go_wp2_with(first|(with_reducible refine Fn.go λ g=>?_)|((with_reducible apply Za);(·exact rfl);(·exact ii)));refine(Bt.call2 IH).mono ?_;rintro e w5 ⟨v,q,rfl,⟨Y,ad2,cap2,⟨rfl,rfl⟩,hY,hYh,hYt⟩,B5⟩;have B6:=Bt.unrot B5;clear B5;simp only [List.cons_append,List.nil_append]at B6;have HY:=Lib.hid hYt;clear hYt;dsimp only;go_wp2_with fail;exact zo B6.drop hX hY hheld hYh Hd.out HY.out
     ·have tk:=(hl' 1 (by omega))
      have IH:=ih K c (l 1) _ ad' (m+1+X.length) cap' (L++[p.cs.toList]++Y8 X) tk (by omega) (by omega)
      have hnl:(l 1).isNone=true\/(l 1).isNone=false/\(l 1).level=(n:Int):=by
       rcases tk.lv with h|h
       ·exact .inl ((Pt.isNone_iff _).2 h)
       ·exact .inr ⟨h.1,h.2.1⟩
      have Hd:=Lib.hid hd;clear hd tk;rcases hnl with hnl|⟨hnl,hlv⟩
      all_goals
       have HN2:∀ w,Fn 169 #[.agg (l 1).cs] w (.bool (l 1).isNone):=λ w=>Y4 _ w
       rw [hnl]at HN2;have Hnl:=Lib.hid hnl;clear hnl
       try(have hlv2:((l 1).level !=(n:Int))=false:=by simp [hlv])
       try clear hlv
       go_wp2_with(first|(with_reducible refine Fn.go λ g=>?_)|((with_reducible apply Za);(·exact rfl);(·exact ii)));refine(Bt.call2 IH).mono ?_;rintro e w5 ⟨v,q,rfl,⟨Y,ad2,cap2,⟨rfl,rfl⟩,hY,hYh,hYt⟩,B5⟩;have B6:=Bt.unrot B5;clear B5;simp only [List.cons_append,List.nil_append]at B6;have HY:=Lib.hid hYt;clear hYt;dsimp only;go_wp2_with fail;exact zo B6.drop hX hY hheld hYh Hd.out HY.out
     ·have tk:=(hl' 2 (by omega))
      have IH:=ih K c (l 2) _ ad' (m+1+X.length) cap' (L++[p.cs.toList]++Y8 X) tk (by omega) (by omega)
      have hnl:(l 2).isNone=true\/(l 2).isNone=false/\(l 2).level=(n:Int):=by
       rcases tk.lv with h|h
       ·exact .inl ((Pt.isNone_iff _).2 h)
       ·exact .inr ⟨h.1,h.2.1⟩
      have Hd:=Lib.hid hd;clear hd tk;rcases hnl with hnl|⟨hnl,hlv⟩
      all_goals
       have HN2:∀ w,Fn 169 #[.agg (l 2).cs] w (.bool (l 2).isNone):=λ w=>Y4 _ w
       rw [hnl]at HN2;have Hnl:=Lib.hid hnl;clear hnl
       try(have hlv2:((l 2).level !=(n:Int))=false:=by simp [hlv])
       try clear hlv
       go_wp2_with(first|(with_reducible refine Fn.go λ g=>?_)|((with_reducible apply Za);(·exact rfl);(·exact ii)));refine(Bt.call2 IH).mono ?_;rintro e w5 ⟨v,q,rfl,⟨Y,ad2,cap2,⟨rfl,rfl⟩,hY,hYh,hYt⟩,B5⟩;have B6:=Bt.unrot B5;clear B5;simp only [List.cons_append,List.nil_append]at B6;have HY:=Lib.hid hYt;clear hYt;dsimp only;go_wp2_with fail;exact zo B6.drop hX hY hheld hYh Hd.out HY.out
     ·have tk:=(hl' 3 (by omega))
      have IH:=ih K c (l 3) _ ad' (m+1+X.length) cap' (L++[p.cs.toList]++Y8 X) tk (by omega) (by omega)
      have hnl:(l 3).isNone=true\/(l 3).isNone=false/\(l 3).level=(n:Int):=by
       rcases tk.lv with h|h
       ·exact .inl ((Pt.isNone_iff _).2 h)
       ·exact .inr ⟨h.1,h.2.1⟩
      have Hd:=Lib.hid hd;clear hd tk;rcases hnl with hnl|⟨hnl,hlv⟩
      all_goals
       have HN2:∀ w,Fn 169 #[.agg (l 3).cs] w (.bool (l 3).isNone):=λ w=>Y4 _ w
       rw [hnl]at HN2;have Hnl:=Lib.hid hnl;clear hnl
       try(have hlv2:((l 3).level !=(n:Int))=false:=by simp [hlv])
       try clear hlv
       go_wp2_with(first|(with_reducible refine Fn.go λ g=>?_)|((with_reducible apply Za);(·exact rfl);(·exact ii)));refine(Bt.call2 IH).mono ?_;rintro e w5 ⟨v,q,rfl,⟨Y,ad2,cap2,⟨rfl,rfl⟩,hY,hYh,hYt⟩,B5⟩;have B6:=Bt.unrot B5;clear B5;simp only [List.cons_append,List.nil_append]at B6;have HY:=Lib.hid hYt;clear hYt;dsimp only;go_wp2_with fail;exact zo B6.drop hX hY hheld hYh Hd.out HY.out
    ·obtain rfl:k=4:=by omega
     have Hd:=Lib.hid hd;clear hd;go_wp2_with fail;go_ret2;have e1:m+(p::X).length=m+1+X.length:=by simp;omega
     have e2:L++Y8 (p::X)=L++[p.cs.toList]++Y8 X:=by simp [Y8]
     refine⟨_,_,rfl,⟨p::X,ad',cap',⟨by rw [e1];rfl,by rw [e1,e2]⟩,by simp only [List.length_cons];omega,λ q hq=>?_,.inr ⟨Hp.out,hl,l,hf,⟨Hx.out,by simp⟩,λ k hk=>(Hd.out k hk).mono (KS.on_le λ q hq=>by simp [hq])⟩⟩,(Bt.drop (Bt.drop B)).t⟩;rcases List.mem_cons.1 hq with rfl|hq
     ·exact⟨Hp.out,_,Hx.out⟩
     ·exact hheld q hq
  ·obtain rfl:=(Pt.isNone_iff p).1 hp;clear hp
   go_in
   go_wp2_with(first|(with_reducible refine Fn.go λ g=>?_)|((with_reducible apply Za);(·exact rfl);(·exact ii)));go_ret2;exact⟨_,_,rfl,⟨[],_,_,⟨rfl,by simp [Y8]⟩,Nat.zero_le _,(λ q hq=>by cases hq),Tr.zero _ λ j hj=>t.zeros j hj⟩,(Bt.drop ii).t⟩
end
end Go.Proofs.YtlfjdjndhcmliaaGreatDoor
