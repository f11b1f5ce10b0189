/- WholeOld, part 2. -/
import Derived.Test.YtlfjdjndhcmliaaGreatDoorA01
import Derived.Test.YtlfjdjndhcmliaaGreatDoorA00
import Derived.Laws.ResultCell
import Derived.ChangeKeysEq
set_option maxRecDepth 100000
set_option maxHeartbeats 4000000
set_option linter.all false
namespace Go.Proofs.YtlfjdjndhcmliaaGreatDoor
open Go.RowKit Go.Sort
theorem Yu{a b:ByteArray}(h:a.data.toList=b.data.toList):a=b:=by
 cases a with
 |mk x =>
  cases b with
  |mk y =>
   have:x=y:=Array.toList_inj.1 h;rw [this]
theorem ZQ(a b:ByteArray):(a++b).data.toList=a.data.toList++b.data.toList:=by simp [ByteArray.data_append]
theorem Zs(a b:ByteArray):(a++b).size=a.size+b.size:=by rw [<-Zi,ZQ,List.length_append,Zi,Zi]
theorem ZeO{s:ByteArray}(h:s.size%4=0):zR s=0:=by unfold zR;omega
theorem ZiW{s:ByteArray}(h:s.size%4=0):KD s=s:=by
 refine Yu ?_;rw [UY,ZeO h];simp [Lib.repeatL]
theorem Zhf(s t:ByteArray)(i k:Nat)(h:i+k<=s.size):num (s++t) i k=num s i k:=by
 unfold num;rw [ZQ,List.drop_append_of_le_length (by rw [Zi];omega),List.take_append_of_le_length (by rw [List.length_drop,Zi];omega)]
theorem Zen(s t:ByteArray)(i k:Nat):num (s++t) (s.size+i) k=num t i k:=by
 unfold num;rw [ZQ,<- Zi,List.drop_append,List.drop_of_length_le (by omega)];simp
theorem jB(s t:ByteArray)(h:s.size%4=0):∀ n:Nat,XR (s++t) (Xk s+n)=XR s (Xk s)++XR t n
 |0=>by
  simp only [Nat.add_zero,XR,List.range_zero,List.map_nil,List.append_nil];refine List.map_congr_left λ k hk=>?_
  have:=List.mem_range.1 hk;unfold yx;exact Zhf _ _ _ _ (by unfold Xk at this;omega)
 |n+1=>by
  rw [<-Nat.add_assoc,Xv,jB s t h n,Xv,List.append_assoc]
  congr 2
  unfold yx;rw [show 4*(Xk s+n)=s.size+4*n from by unfold Xk;omega,Zen]
theorem U1{s t:ByteArray}(h:s.size%4=0):Xj (s++t)=Xj s++Xj t:=by
 have e:Xk (s++t)=Xk s+Xk t:=by unfold Xk;rw [Zs];omega
 unfold Xj;rw [e,jB s t h]
def Yh(s:ByteArray):S4:=sums Xm (Xj (KD s))
theorem VM(s:ByteArray):(Yh s).ok:=V3 QX _
theorem yH(w:World)(a b c d e f g h:Nat):(Op.equalIn 10000 48 (.agg #[.int .u64 (a:Int),.int .u64 (b:Int),.int .u64 (c:Int),.int .u64 (d:Int)]) (.agg #[.int .u64 (e:Int),.int .u64 (f:Int),.int .u64 (g:Int),.int .u64 (h:Int)])).run Tryz.prog w
  = .ok (decide ((⟨a,b,c,d⟩:S4)=⟨e,f,g,h⟩)) w:=by
 have hi:∃ i,Tryz.prog.info? 46=some i:=Option.isSome_iff_exists.1 (by kernel_rfl);obtain⟨i,hi⟩:=hi;have hc:Tryz.prog.cellsOf 46=1:=by kernel_rfl
 have hk:Tryz.prog.plainKey 46=true:=by kernel_rfl
 have hp:∀(xs:Array Value)(o:Nat)(v:Value),xs[o]?=some v->(part 46 xs o).run Tryz.prog w=.ok v w:=λ xs o v h=>run_part_plain w hk h
 have heq:∀ x y:Int,(Op.equalIn 9999 46 (.int .u64 x) (.int .u64 y)).run Tryz.prog w=.ok (x==y) w:=λ x y=>run_equalIn_int (P:=Tryz.prog) w 9998 46 .u64 .u64 x y Tryz.underlying46
 have h0:∀ xs ys:Array Value,(Op.equalIn 10000 48 (.agg xs) (.agg ys)).run Tryz.prog w=(Op.eqItems 9999 46 1 xs ys [0,1,2,3]).run Tryz.prog w:=λ xs ys=>by
  have:=run_equalIn_array (P:=Tryz.prog) w 9999 xs ys Tryz.underlying48 hi;rw [hc]at this;exact this
 rw [h0];have p0:∀ u x y z:Value,(part 46 #[u,x,y,z] (0*1)).run Tryz.prog w=.ok u w:=λ u x y z=>hp _ _ _ rfl
 have p1:∀ u x y z:Value,(part 46 #[u,x,y,z] (1*1)).run Tryz.prog w=.ok x w:=λ u x y z=>hp _ _ _ rfl
 have p2:∀ u x y z:Value,(part 46 #[u,x,y,z] (2*1)).run Tryz.prog w=.ok y w:=λ u x y z=>hp _ _ _ rfl
 have p3:∀ u x y z:Value,(part 46 #[u,x,y,z] (3*1)).run Tryz.prog w=.ok z w:=λ u x y z=>hp _ _ _ rfl
 have hbeq:∀ x y:Nat,((x:Int)==(y:Int))=decide (x=y):=λ x y=>by
  by_cases h:x=y
  ·simp [h]
  ·have h2:¬ (x:Int)=(y:Int):=by omega
   simp [h,h2]
 simp only [Nat.mul_one]at p0 p1 p2 p3
 by_cases h1:a=e<;>by_cases h2:b=f<;>by_cases h3:c=g<;>by_cases h4:d=h<;>simp [Op.eqItems,Sem.run_bind,p0,p1,p2,p3,heq,hbeq,h1,h2,h3,h4,Result.andThen]
theorem ZcE(w:World)(a b c d e f g h:Nat):(binOp .eql 48 (.agg #[.int .u64 (a:Int),.int .u64 (b:Int),.int .u64 (c:Int),.int .u64 (d:Int)]) (.agg #[.int .u64 (e:Int),.int .u64 (f:Int),.int .u64 (g:Int),.int .u64 (h:Int)])).run Tryz.prog w
  = .ok (.bool (decide ((⟨a,b,c,d⟩:S4)=⟨e,f,g,h⟩))) w:=by
 simp [go_sem,yH,Result.andThen]
theorem ZbT(w:World)(a b c d e f g h:Nat):(binOp .neq 48 (.agg #[.int .u64 (a:Int),.int .u64 (b:Int),.int .u64 (c:Int),.int .u64 (d:Int)]) (.agg #[.int .u64 (e:Int),.int .u64 (f:Int),.int .u64 (g:Int),.int .u64 (h:Int)])).run Tryz.prog w
  = .ok (.bool (!decide ((⟨a,b,c,d⟩:S4)=⟨e,f,g,h⟩))) w:=by
 simp [go_sem,yH,Result.andThen]
theorem Qx(s:ByteArray)(hs:s.size<4611686018427387900):KI Tryz.prog 122 #[.string s] (Yh s).v:=ZiB s hs
def S4.nth(x:S4):Nat->Nat
 |0=>x.a
 |1=>x.b
 |2=>x.c
 |_=>x.d
def bs(x:S4):Nat->ByteArray
 |0=>⟨#[]⟩
 |k+1=>bs x k++Qp (x.nth k) 8
@[go_sem] theorem XS (x:S4):∀ k:Nat,(bs x k).size=8*k
 |0=>rfl
 |k+1=>by rw [bs,Zs,XS x k,ZF];omega
theorem ZkU(w:World)(x:S4)(k:Nat)(hk:k<4):(Instr.index 48 (.agg #[.int .u64 (x.a:Int),.int .u64 (x.b:Int),.int .u64 (x.c:Int),.int .u64 (x.d:Int)]) (.int .i64 (k:Int))).run Tryz.prog w=.ok (.int .u64 (x.nth k:Int)) w:=by
 have hi:∃ i,Tryz.prog.info? 46=some i:=Option.isSome_iff_exists.1 (by kernel_rfl);obtain⟨i,hi⟩:=hi;have hc:Tryz.prog.cellsOf 46=1:=by kernel_rfl
 have hk':Tryz.prog.plainKey 46=true:=by kernel_rfl
 have hp:(part 46 #[.int .u64 (x.a:Int),.int .u64 (x.b:Int),.int .u64 (x.c:Int),.int .u64 (x.d:Int)] k).run Tryz.prog w=.ok (.int .u64 (x.nth k:Int)) w:=by
  refine run_part_plain w hk' ?_;rcases(show k=0\/k=1\/k=2\/k=3 by omega)with rfl|rfl|rfl|rfl<;>rfl
 simp [Instr.index,run_underlying Tryz.underlying48,asIntOf,run_sizeOf w hi,hc,hp];intro h;omega
set_option maxRecDepth 512 in
theorem ZkM(n:Nat):KI Tryz.prog 173 #[.int .u64 (n:Int)] (.string (Qp n 8)):=by
 intro w;have c:KI Tryz.prog 220 #[.int .u64 (n:Int),.int .i64 8] (.string (Qp n 8)):=qh n 8 (by omega)
 go_in
 go_wp2_with(go_at_call 220;with_reducible refine(c.at _).mono ?_;rintro e w' ⟨rfl,g,rfl⟩);go_ret;exact ZM.mk rfl grown
set_option maxRecDepth 512 in
theorem Zeq(x:S4):KI Tryz.prog 121 #[x.v] (.string (bs x 4)):=by
 intro w;have hix:=λ W:World=>ZkU W x
 simp only [S4.v,S4.cs];obtain⟨x0,hx0⟩:∃ y:Int,(x.a:Int)=y:=⟨_,rfl⟩
 obtain⟨x1,hx1⟩:∃ y:Int,(x.b:Int)=y:=⟨_,rfl⟩
 obtain⟨x2,hx2⟩:∃ y:Int,(x.c:Int)=y:=⟨_,rfl⟩
 obtain⟨x3,hx3⟩:∃ y:Int,(x.d:Int)=y:=⟨_,rfl⟩
 rw [hx0,hx1,hx2,hx3]at hix ⊢;have HX:=Lib.hid hix;clear hix hx0 hx1 hx2 hx3
 go_in
 go_wp2_with fail
 go_loopw [3,7] (λ v i wr=>∃ k:Nat,k<=4/\i=.int .i64 k/\v=.string (bs x k)/\∃ g:Gr,wr=gr (w.alloc (.cells #[.int .u64 x0,.int .u64 x1,.int .u64 x2,.int .u64 x3] 48)) g)
  (λ _ i _=>4-(intOf i).toNat)
 case atStart=>exact⟨0,by omega,rfl,rfl,Y1 _⟩
 case round =>
  obtain⟨k,hk,rfl,rfl,g,rfl⟩:=hrel
  by_cases hlt:k<4
  ·have hxk:=λ W:World=>HX.out W k hlt
   have c:=ZkM (x.nth k);have hbs:bs x k++Qp (x.nth k) 8=bs x (k+1):=rfl;have HB:=Lib.hid hbs;clear hbs;obtain⟨y,hy⟩:∃ y:Int,((x.nth k:Nat):Int)=y:=⟨_,rfl⟩
   obtain⟨L,hL⟩:∃ L:ByteArray,Qp (x.nth k:Int) 8=L:=⟨_,rfl⟩
   have hLs:L.size=8:=by rw [<-hL,ZF]
   rw [hL]at c HB;rw [hy]at c;clear hL;simp only [hy]at hxk;clear hy;go_wp2_with(go_at_call 173;with_reducible refine(c.at _).mono ?_;rintro e w' ⟨rfl,g1,rfl⟩)
   go_roundw
   case rel=>exact⟨k+1,by omega,by go_num,by rw [HB.out],_,rfl⟩
   case measure=>simp [intOf];omega
  ·obtain rfl:k=4:=by omega
   go_wp2_with fail;go_ret;exact ZM.mk rfl grown
theorem Zf6(s:ByteArray)(i:Int)(h:0<=i):max (Xi s i 8) 0=Xi s i 8:=by have:=(kg s i 8 h (by omega)).1;omega
def zU(s:ByteArray)(i:Int):S4:=⟨(Xi s i 8).toNat,(Xi s (i+8) 8).toNat,(Xi s (i+16) 8).toNat,(Xi s (i+24) 8).toNat⟩
set_option maxRecDepth 512 in
theorem kr(b:Nat)(s:ByteArray)(i:Int)(w:World)[h:yc b s i w](h0:0<=i)(h1:i+32<=s.size)(hs:s.size<=65536) :
  yF 191 #[.pointer (some ⟨b,0,none⟩)] w (.tuple #[.agg #[.int .u64 (zU s i).a,.int .u64 (zU s i).b,.int .u64 (zU s i).c,.int .u64 (zU s i).d],.int .i64 0]) (w.setCell ⟨b,1,none⟩ (.int .i64 (i+32))):=by
 refine⟨?_⟩;haveI:=h.old;haveI:Bd s i:=⟨by omega,by omega,by omega⟩
 haveI:Bd s (i+8):=⟨by omega,by omega,by omega⟩
 haveI:Bd s (i+16):=⟨by omega,by omega,by omega⟩
 haveI:Bd s (i+24):=⟨by omega,by omega,by omega⟩
 have a0:X8 s i 8=i+8:=if_pos (by omega);have a1:X8 s (i+8) 8=i+16:=(if_pos (by omega)).trans (by omega);have a2:X8 s (i+16) 8=i+24:=(if_pos (by omega)).trans (by omega);have a3:X8 s (i+24) 8=i+32:=(if_pos (by omega)).trans (by omega);have b0:Jj s i 8=0:=if_pos (by omega);have b1:Jj s (i+8) 8=0:=if_pos (by omega);have b2:Jj s (i+16) 8=0:=if_pos (by omega);have b3:Jj s (i+24) 8=0:=if_pos (by omega)
 go_in
 go_wp2_with fail;refine wp_loop_rounds 5 ?_
 iterate 5 (rw [rounds_succ];go_wp2_with(with_reducible refine yF.go λ g=>?_))
 refine bodyPost_ret ?_ rfl ⟨rfl,Zf grown⟩;simp [results,Tryz.results191,go_sem,zU,Zf6,h0,show 0<=i+8 by omega,show 0<=i+16 by omega,show 0<=i+24 by omega]
end Go.Proofs.YtlfjdjndhcmliaaGreatDoor
