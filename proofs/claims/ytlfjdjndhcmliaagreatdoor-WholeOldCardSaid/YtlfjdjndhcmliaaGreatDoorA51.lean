/- WholeOld, part 51. -/
import Derived.Test.YtlfjdjndhcmliaaGreatDoorA50
import Derived.Test.YtlfjdjndhcmliaaGreatDoorA49
import Derived.Test.YtlfjdjndhcmliaaGreatDoorA36
import Derived.Test.YtlfjdjndhcmliaaGreatDoorA32
import Derived.Test.YtlfjdjndhcmliaaGreatDoorA34
set_option maxRecDepth 100000
set_option maxHeartbeats 4000000
set_option linter.all false
namespace Go.Proofs.YtlfjdjndhcmliaaGreatDoor
open Go.RowKit Go.Sort
theorem Zje(l:List UInt8)(h:12<=l.length):∃ a b c d r,l=l.take 8++([a,b,c,d]++r)/\l.getD 9 0=b/\(∀ v,l.set 9 v=l.take 8++([a,v,c,d]++r))/\r.length=l.length-12:=by
 have hl:(l.take 8).length=8:=by rw [List.length_take];omega
 rcases e:l.drop 8 with _|⟨a,_|⟨b,_|⟨c,_|⟨d,r⟩⟩⟩⟩
 ·have:=congrArg List.length e;simp at this;omega
 ·have:=congrArg List.length e;simp at this;omega
 ·have:=congrArg List.length e;simp at this;omega
 ·have:=congrArg List.length e;simp at this;omega
 ·have e1:l=l.take 8++([a,b,c,d]++r):=by
   have:=List.take_append_drop 8 l;rw [e]at this;exact this.symm
  refine⟨a,b,c,d,r,e1,?_,λ v=>?_,?_⟩
  ·have:(l.drop 8)[1]?=some b:=by rw [e];rfl
   rw [List.getElem?_drop]at this;rw [List.getD_eq_getElem?_getD,this];rfl
  ·conv=>lhs;rw [e1]
   rw [List.set_append_right 9 _ (by rw [hl];omega),hl];rfl
  ·have:=congrArg List.length e;simp at this;omega
theorem ZjH(b:UInt8):b≠b^^^1:=by
 intro e;have:=congrArg (λ x:UInt8=>b^^^x) e;simp [<-UInt8.xor_assoc]at this
theorem spoilt{u:ByteArray}(hu:u.size=224){f:Nat->ByteArray}{k:Nat}(hf:Yd f k 4=u++bs (Yh u) 4)(hz:(f (4*k)).size=64) :
  ∃ u':ByteArray,u'.size=224/\Yh u'≠Yh u/\Yd (spU f (4*k)) k 4=u'++bs (Yh u) 4:=by
 obtain⟨x,hx⟩:∃ x,bs (Yh u) 4=x:=⟨_,rfl⟩
 rw [hx]at hf ⊢;have hul:u.data.toList.length=224:=by rw [Zi];exact hu
 obtain⟨a,b,c,d,r,e1,e2,e3,e4⟩:=Zje u.data.toList (by omega);have z8:(⟨(u.data.toList.take 8).toArray⟩:ByteArray).size=8:=by rw [<-Zi];simp;omega
 have zr:(⟨r.toArray⟩:ByteArray).size=212:=by rw [<-Zi];simp;omega
 have us:∀ v:UInt8,(⟨(u.data.toList.set 9 v).toArray⟩:ByteArray)=⟨(u.data.toList.take 8).toArray⟩++⟨#[a,v,c,d]⟩++⟨r.toArray⟩:=λ v=>by
  apply Yu;rw [ZQ,ZQ];show (u.data.toList.set 9 v)=_;rw [e3,<- List.append_assoc]
 have u0:u=⟨(u.data.toList.take 8).toArray⟩++⟨#[a,b,c,d]⟩++⟨r.toArray⟩:=by
  apply Yu;rw [ZQ,ZQ];refine e1.trans ?_;rw [<-List.append_assoc]
 refine⟨⟨(u.data.toList.set 9 (b^^^1)).toArray⟩,by rw [<-Zi];simpa using hul,?_,?_⟩
 ·rw [us]
  conv=>rhs;rw [u0]
  exact Zfu (by rw [z8]) (by rw [zr]) (ZjH b)
 ·have n:∀ j,4*k+(j+1)≠4*k:=λ j=>by omega
  have hl:=congrArg (λ t:ByteArray=>t.data.toList) hf;apply Yu;simp only [Yd,ZQ,spU,Nat.add_zero,if_true,if_neg (n 0),if_neg (n 1),if_neg (n 2)]at hl ⊢;have hfl:(f (4*k)).data.toList.length=64:=by rw [Zi];exact hz
  simp only [List.nil_append,List.append_assoc]at hl ⊢
  have hg:(f (4*k)).data.toList.getD 9 0=b:=by
   have h1:=congrArg (λ l:List UInt8=>l.getD 9 0) hl;simp only [List.getD_eq_getElem?_getD]at h1 e2 ⊢;rw [List.getElem?_append_left (by omega),List.getElem?_append_left (by omega)]at h1;rw [h1,e2]
  rw [Zbn,hg,<- List.set_append_left _ _ (by omega),hl,List.set_append_left _ _ (by omega)]
inductive Tok|num(x:Int)|nd(n:Nd)
def Tok.l:Tok->List UInt8
 | .num x=>(Qp x 8).data.toList
 | .nd n=>n.bytes.data.toList
def yt(R:List Tok):List UInt8:=R.flatMap Tok.l
structure Rem(t:ByteArray)(i:Int)(R:List Tok):Prop where
 lo:0<=i
 hi:i<=t.size
 sz:t.size<=65536
 e:t.data.toList.drop i.toNat=yt R
theorem Rem.cut{t:ByteArray}{i:Int}{x:Tok}{R:List Tok}(h:Rem t i (x::R)):∃ A:List UInt8,A.length=i.toNat/\t.data.toList=A++(x.l++yt R)/\i+x.l.length<=t.size:=by
 have e:=h.e;have e1:=List.take_append_drop i.toNat t.data.toList;rw [e]at e1
 have hl:(t.data.toList.take i.toNat).length=i.toNat:=by
  have:=h.hi;rw [<-Zi]at this;rw [List.length_take];omega
 refine⟨_,hl,e1.symm,?_⟩;have:=congrArg List.length e1;rw [List.length_append,hl,Zi,show yt (x::R)=x.l++yt R from rfl,List.length_append]at this;have:=h.lo;omega
theorem Rem.next{t:ByteArray}{i n:Int}{x:Tok}{R:List Tok}(h:Rem t i (x::R))(hn:n=x.l.length):Rem t (i+n) R:=by
 obtain⟨A,a1,a2,a3⟩:=h.cut;have:=h.lo;refine⟨by omega,by omega,h.sz,?_⟩;rw [a2,<- List.append_assoc,List.drop_left' (by rw [List.length_append,a1];omega)]
theorem Rem.num{t:ByteArray}{i x:Int}{R:List Tok}(h:Rem t i (.num x::R))(hx:0<=x/\x<=4611686018427387903):yS t i=x/\zQ t i=0/\qe t i=i+8/\Rem t (i+8) R:=by
 have z:(Tok.num x).l.length=8:=by show (Qp x 8).data.toList.length=8;rw [Zi,ZF]
 obtain⟨A,a1,a2,a3⟩:=h.cut;rw [z]at a3
 have f:=ZY t A _ x i 8 hx.1
   (show x<256^8 by omega) h.lo (by omega) a1 a2
 unfold yS zQ qe;rw [f];exact⟨if_pos (by omega),by rw [if_pos (by omega),if_pos (by omega)],if_pos (by omega),h.next (by rw [z];rfl)⟩
theorem Rem.nd{t:ByteArray}{i:Int}{n:Nd}[Yv n]{R:List Tok}(h:Rem t i (.nd n::R)):Jg t i 128=n.bytes/\Jj t i 128=0/\X8 t i 128=i+128/\Rem t (i+128) R:=by
 have z:(Tok.nd n).l.length=128:=by show n.bytes.data.toList.length=128;rw [Zi,n.bytes_size]
 obtain⟨A,a1,a2,a3⟩:=h.cut;rw [z]at a3;have hl:=h.lo;refine⟨?_,if_pos (by omega),if_pos (by omega),h.next (by rw [z];rfl)⟩;unfold Jg;rw [if_pos (by omega)];apply Yu;rw [Lib.extract_eq,a2];exact mid _ _ _ _ _ a1 (z.trans (by omega))
theorem Rem.nil{t:ByteArray}{i:Int}(h:Rem t i []):Qd t i=true:=J4 _ _ (by rw [h.e];intro b hb;cases hb)
abbrev nz:Array Value:=#[.int .i64 0,.int .i64 0,.int .i64 0,.int .i64 0,.int .i64 0,.bool false,.int .i64 0,.int .i64 0,.int .i64 0,.int .u64 0,.int .u64 0,.int .u64 0,.int .u64 0]
def RdT(r b:Nat)(t:ByteArray)(R:List Tok):SP:=λ h=>∃ i,Rem t i R/\star [Zd r #[pV b,.int .i64 0] 174,Zd b #[.string t,.int .i64 i] 239] h
section
variable{r b:Nat}{t:ByteArray}{R:List Tok}
theorem Bt.rdt{W w:World}{h:Hl}{l:List SP}(B:Bt W h (RdT r b t R::l) w):∃ i,Rem t i R/\Bt W h (Zd r #[pV b,.int .i64 0] 174::Zd b #[.string t,.int .i64 i] 239::l) w:=by
 obtain⟨i,B⟩:=B.ex;obtain⟨e,B⟩:=B.pure;exact⟨i,e,B.flat⟩
theorem Zbp(r b:Nat):Tq 141 #[pV r,.int .i64 0] (Zd r #[pV b,.int .i64 0] 174) λ _ q=>q=Zd r #[pV b,.int .i64 0] 174:=by
 refine Tq.of λ W h B=>?_
 go_in
 go_wp2_with fail;go_end0;exact⟨_,_,rfl,rfl,Yz (W:=W) (h:=h) (l:=[Zd r #[pV b,.int .i64 0] 174]) ii λ w9 B9=>B9.fin_at 0 rfl⟩
theorem Qm(x most:Int)(h0:0<=x/\x<=most)(hm:most<=4611686018427387903):Tq 82 #[pV r,.int .i64 most] (RdT r b t (.num x::R)) λ v q=>v=.int .i64 x/\q=RdT r b t R:=by
 refine Tq.of λ W h B0=>?_
 obtain⟨i,hr,B⟩:=B0.rdt;clear B0;obtain⟨e0,e1,e2,hn⟩:=hr.num ⟨h0.1,by omega⟩;haveI:Bd t i:=⟨hr.lo,hr.hi,hr.sz⟩
 have T1:∀(w:World) [yc b t i w],yF 143 #[.pointer (some ⟨b,0,none⟩)] w (.tuple #[.int .i64 x,.int .i64 0]) (w.setCell ⟨b,1,none⟩ (.int .i64 (i+8))):=λ w _=>by
  have:=Zcr b t i w
  rwa [e0,e1,e2]at this
 have H1:=Lib.hid T1;have FA:=Lib.hid (Zbp r b);have Hn:=Lib.hid hn;clear T1 e0 e1 e2 hn hr;have q1:decide (most<x)=false:=decide_eq_false (by omega)
 go_in
 go_wp2_with fail;refine(H1.out W).1.mono ?_;rintro e v3 ⟨rfl,hw⟩;have B3:Bt W h _ v3:=Ze hw;clear hw B;dsimp only;go_wp2_with fail;refine(Bt.call FA.out).mono ?_;rintro e w4 ⟨v,q,rfl,rfl,B4⟩;clear B3;dsimp only;go_wp2_with fail;go_ret;exact XE (W:=W) (h:=h) (l:=[Zd r #[pV b,.int .i64 0] 174,Zd b #[.string t,.int .i64 (i+8)] 239]) ii λ w9 B9=>⟨_,⟨rfl,rfl⟩,((B9.app [_,_]).head λ _ s=>⟨_,Hn.out,s⟩).fin_at 0 rfl⟩
theorem Zay(n:Nd)[Yv n]:Tq 81 #[pV r] (RdT r b t (.nd n::R)) λ v q=>v=.agg n.cs/\q=RdT r b t R:=by
 refine Tq.of λ W h B0=>?_
 obtain⟨i,hr,B⟩:=B0.rdt;clear B0;obtain⟨e0,e1,e2,hn⟩:=hr.nd;haveI:Bd t i:=⟨hr.lo,hr.hi,hr.sz⟩
 have T1:∀(w:World) [yc b t i w],yF 140 #[.pointer (some ⟨b,0,none⟩),.int .i64 128] w (.tuple #[.string n.bytes,.int .i64 0]) (w.setCell ⟨b,1,none⟩ (.int .i64 (i+128))):=λ w _=>by
  have:=zF b t i 128 (by omega) (by omega) w
  rwa [e0,e1,e2]at this
 have RN:∀ w,Fn 142 #[.string n.bytes] w (.tuple #[.agg n.cs,.bool true,.int .i64 0]):=λ w=>jC n w
 have H1:=Lib.hid T1;have FA:=Lib.hid (Zbp r b);have HN:=Lib.hid RN;have Hn:=Lib.hid hn;clear T1 RN e0 e1 e2 hn hr;generalize n.bytes=nb at *
 go_in
 go_wp2_with fail;refine ZB (W:=W) (h:=h) (l:=[Zd W.heap.size nz 52,Zd r #[pV b,.int .i64 0] 174,Zd b #[.string t,.int .i64 i] 239]) ii ?_;intro w2 C2;clear B;refine(H1.out w2).1.mono ?_;rintro e v3 ⟨rfl,hw⟩;have B3:Bt W h _ v3:=Ze hw;clear hw C2;dsimp only;go_wp2_with fail;refine(Bt.call FA.out).mono ?_;rintro e w4 ⟨v,q,rfl,rfl,B4⟩;clear B3;dsimp only;go_wp2_with fail;refine(HN.out w4).1.mono ?_;rintro e v5 ⟨rfl,hb⟩;have B5:Bt W h _ v5:=Ze (Zf hb);clear hb B4;dsimp only;go_wp2_with((with_reducible apply Zb);(·exact rfl);(·exact rfl);(·exact ii));refine(Bt.call FA.out).mono ?_;rintro e w6 ⟨v',q',rfl,rfl,B6⟩;clear B5;dsimp only;go_wp2_with(first|((with_reducible apply Za);(·exact rfl);(·exact ii))|((with_reducible apply Zb);(·exact rfl);(·exact rfl);(·exact ii)))
 (refine bodyPost_ret (zz (z:=13) rfl _ _ _ _ rfl inferInstance Tryz.underlying52 rfl (by kernel_rfl)) rfl ?_)
 exact XE (W:=W) (h:=h) (l:=[Zd v5.heap.size n.cs 52,Zd W.heap.size n.cs 52,Zd r #[pV b,.int .i64 0] 174,Zd b #[.string t,.int .i64 (i+128)] 239]) ii λ w9 B9=>⟨_,⟨rfl,rfl⟩,((B9.drop.drop.app [_,_]).head λ _ s=>⟨_,Hn.out,s⟩).fin_at 0 rfl⟩
end
def ym(x:Sn):List Tok:=[.num x.id,.num x.txg,.nd x.dir]
def Jm(n:Nat):List Tok:=List.replicate n (.num 0)
def msT(live:Nd)(l:List Sn)(n:Nat):List Tok:=.nd live::.num l.length::(l.flatMap ym++(Jm 9++(.num n::Jm (2*n))))
theorem qk(A B:List Tok):yt (A++B)=yt A++yt B:=List.flatMap_append
theorem qy(vs:List Int):∀ o:ByteArray,(∀ i∈vs,0<=i/\i<=4611686018427387903)->(yD o vs).data.toList=o.data.toList++yt (vs.map .num):=by
 induction vs with
 |nil=>intro o _;exact(List.append_nil _).symm
 |cons i vs ih =>
  intro o h;have h1:=h i (by simp);show (yD (o++XL i) vs).data.toList=_;rw [ih _ λ j hj=>h j (by simp [hj]),ZQ,Ju h1.1 h1.2,List.append_assoc];rfl
theorem Zi2(l:List Sn):∀ o:ByteArray,(∀ x∈l,(0<=x.id/\x.id<=99)/\1<=x.txg/\x.txg<=4294967295)->(msS o l).data.toList=o.data.toList++yt (l.flatMap ym):=by
 induction l with
 |nil=>intro o _;exact(List.append_nil _).symm
 |cons x l ih =>
  intro o h;have h1:=h x (by simp);show (msS (yD o [x.id,x.txg]++x.dir.bytes) l).data.toList=_;rw [ih _ λ y hy=>h y (by simp [hy]),ZQ,qy _ _ (by intro i hi;simp at hi;rcases hi with rfl|rfl<;>omega),List.append_assoc,List.append_assoc];refine congrArg _ ?_;rw [List.flatMap_cons,qk];simp [yt,ym,Tok.l]
theorem ZhK(a b:Nat):Jm a++Jm b=Jm (a+b):=List.replicate_append_replicate
theorem Zde(o:ByteArray):∀ n,(msR o n).data.toList=o.data.toList++yt (Jm (2*n))
 |0=>(List.append_nil _).symm
 |n+1=>by
  show (yD (msR o n) [0,0]).data.toList=_;rw [qy _ _ (by decide),Zde o n,List.append_assoc,<- qk];exact congrArg (λ x=>o.data.toList++yt x) (ZhK (2*n) 2)
theorem ZjI{live:Nd}{l:List Sn}{n:Nat}(hl:l.length<=4)(hn:n<=100)(h:∀ x∈l,(0<=x.id/\x.id<=99)/\1<=x.txg/\x.txg<=4294967295):(msB live l n).data.toList=yt (msT live l n):=by
 unfold msB VU;rw [Zde,qy _ _ (by intro i hi;simp at hi;omega),qy _ _ (by intro i hi;rw [(List.mem_replicate.1 hi).2];omega),Zi2 _ _ h,qy _ _ (by intro i hi;simp at hi;omega),ZQ,List.map_replicate];have nil:(⟨#[]⟩:ByteArray).data.toList=[]:=rfl;rw [nil,List.nil_append];unfold msT;show _=live.bytes.data.toList++((Qp l.length 8).data.toList++yt (l.flatMap ym++(Jm 9++(.num n::Jm (2*n)))));rw [qk,qk];simp only [List.append_assoc];refine congrArg _ ?_;simp [yt,Jm,Tok.l]
theorem Zjs{live:Nd}[Yv live]{l:List Sn}{n:Nat}(hl:l.length<=4)(hn:n<=100)(hd:∀ x∈l,Yv x.dir)(h:∀ x∈l,(0<=x.id/\x.id<=99)/\1<=x.txg/\x.txg<=4294967295):Rem (msB live l n) 0 (msT live l n):=by
 have z:=ZaJ live l n hd;exact⟨by omega,by omega,by omega,ZjI hl hn h⟩
theorem Zb9(n:Nd)(w:World):(Instr.build 78 #[(0,.agg n.cs)]).run Tryz.prog w=.ok (.agg (mC n (.slice none 0 0) (.slice none 0 0))) w:=by kernel_rfl
section
variable{ops:Array Oper}{rest:List Oper}{Q:Exit->Act->World->Prop}{a:Act}{w:World}{d:Option Tmp}{ty:TypeId}{pos:String}{aft:Array Edge}
theorem ZaC{x:Operand}{n:Nd}(hx:a.eval x=.agg n.cs)(h:wpList Tryz.prog ops Q rest (a.put d (.agg (mC n (.slice none 0 0) (.slice none 0 0)))) w) :
  wpList Tryz.prog ops Q ({ dst:=d,op:=.build 78 #[(0,x)],type:=ty,pos:=pos,after:=aft,guard:=none }::rest) a w:=by
 refine Ya (v:=.agg _) (w':=w) rfl ?_ h;simp only [execOp,List.map_toArray,List.map_cons,List.map_nil,hx,Sem.run_bind,Zb9 n w,Result.andThen_ok,Sem.run_pure]
end
abbrev stz:Array Value:=#[.int .i64 0,.int .i64 0,.int .i64 0,.int .i64 0,.int .i64 0,.bool false,.int .i64 0,.int .i64 0,.int .i64 0,.int .u64 0,.int .u64 0,.int .u64 0,.int .u64 0,.slice none 0 0,.int .i64 0,.int .i64 0,.int .i64 0,.int .i64 0,.int .i64 0,.int .i64 0,.int .i64 0,.int .i64 0,.int .i64 0,.slice none 0 0]
abbrev z9:Array Value:=#[.int .i64 0,.int .i64 0,.int .i64 0,.int .i64 0,.int .i64 0,.int .i64 0,.int .i64 0,.int .i64 0,.int .i64 0]
theorem Zli{j:Nat}(h:j<9):z9.setIfInBounds j (.int .i64 0)=z9:=by
 match j,h with
 |0,_|1,_|2,_|3,_|4,_|5,_|6,_|7,_|8,_=>rfl
theorem ZkR{W w:World}{l:List SP}{p:SP}(B:Bt W (λ _=>none) l w)(k:∀ w,Bt W (λ _=>none) l w->zP p W w):zP p W w:=k w B
def MrR(live:Nd)(l:List Sn)(n:Nat)(W:World)(e:Ending)(w':World):Prop:=∃ sa scap ra rcap,e=.returned (.tuple #[.agg (mC live (.slice sa l.length scap) (.slice ra n rcap)),.int .i64 0])/\zP (star [Zw 125 15 sa l.length scap (Ye l),Zw 92 2 ra n rcap (YU n)]) W w'
theorem ZgE(s:ZO)(secs:Int)[k:Ky s secs](live:Nd)[Yv live](l:List Sn)(n:Nat)(ok:ZgG s secs l)(hlive:KH s secs live)(hd:∀ x∈l,Yv x.dir)(hn:YB s s.len=n)(W:World)[m:GM s W] :
  Calls Tryz.prog 37 #[.agg #[.slice s.ad s.len s.cap,.int .i64 secs],.string (msB live l n)] W (MrR live l n W):=by
 have hn100:n<=100:=by have:=XA k.h s.len (Nat.le_refl _);have:=k.h.2.1;omega
 have hl4:=ok.len;have hsn:∀ x∈l,(0<=x.id/\x.id<=99)/\1<=x.txg/\x.txg<=4294967295:=λ x hx=>⟨ok.id x hx,ok.txg x hx⟩
 have rem:=Zjs (live:=live) hl4 hn100 hd hsn;have MR:=λ(w:World)(_:GM s w)(ad:Option Addr)(cap:Nat) (R:Zy 15 ad l.length cap (Ye l) w) (ad2:Option Addr) (cap2:Nat) (R2:Zy 2 ad2 n cap2 (YU n) w) (hc:l.length<=cap)=>U6 s secs w live ad cap l n ad2 cap2 ok hc hlive hn
 generalize msB live l n=t at *
 have Rm:=Lib.hid rem;have HD:=Lib.hid hd;have HS:=Lib.hid hsn;have HMR:=Lib.hid MR;clear rem hd hsn MR ok hlive hn;haveI BZ:=Bt.zero W
 go_in
 go_wp2_with fail;refine ZB (W:=W) (h:=λ _=>none) ii ?_;intro w1 B1;refine(ZcQ t w1).mono ?_;rintro e w2 ⟨rfl,rfl⟩;clear BZ;dsimp only;go_wp2_with fail;refine ZB (W:=W) (h:=λ _=>none) (l:=[Zd (w1.heap.size+1) #[pV w1.heap.size,.int .i64 0] 174,Zd w1.heap.size #[.string t,.int .i64 0] 239,_,_]) ii ?_;intro w3 B3;have B4:Bt W (λ _=>none) [RdT (w1.heap.size+1) w1.heap.size t (msT live l n),_,_] w3:=(B3.app [_,_]).head λ h s=>⟨0,Rm.out,s⟩
 clear B3 B1 Rm;generalize w1.heap.size=b at *
 generalize b+1=r at *
 obtain⟨R1,hR1⟩:∃ R1,Jm 9++(.num n::Jm (2*n))=R1:=⟨_,rfl⟩
 unfold msT at B4;rw [hR1]at B4;have HR1:=Lib.hid hR1;clear hR1;have NT:=Zay (r:=r) (b:=b) (t:=t) (R:=.num l.length::(l.flatMap ym++R1)) live;have CT:=Qm (r:=r) (b:=b) (t:=t) (R:=l.flatMap ym++R1) l.length 100 (by omega) (by decide);refine(Bt.call NT).mono ?_;rintro e w4 ⟨v,q,rfl,⟨rfl,rfl⟩,B5⟩;clear B4;dsimp only;go_wp2_with(first|((with_reducible apply ZaC);(·exact rfl))|((with_reducible apply Zb);(·exact rfl);(·exact rfl);(·exact ii)));refine(Bt.call CT).mono ?_;rintro e w5 ⟨v,q,rfl,⟨rfl,rfl⟩,B6⟩;clear B5 NT CT;dsimp only;go_wp2_with fail;generalize w4.heap.size=p7 at *
 have B7:=B6.more (Zw.nil 125 15 _);simp only [List.cons_append,List.nil_append]at B7;have B8:=Bt.oS (B7) [0,1,4,2,3];clear B6 B7
 go_loopw [19] (λ iv wr=>∃(k:Nat)(sa:Option Addr)(scap:Nat),k<=l.length/\iv=.int .i64 k/\Bt W (λ _=>none) [Zd p7 (mC live (.slice sa k scap) (.slice none 0 0)) 78,RdT r b t ((l.drop k).flatMap ym++R1),Zw 125 15 sa k scap (Ye (l.take k)),Zd (W.heap.size+1) stz 78,Zd W.heap.size #[.slice s.ad s.len s.cap,.int .i64 secs] 24] wr)
  (λ iv _=>l.length-(intOf iv).toNat)
 case atStart=>exact⟨0,none,0,Nat.zero_le _,rfl,B8⟩
 case round =>
  clear B8;obtain⟨k,sa,scap,hk,rfl,B⟩:=hrel
  by_cases hlt:k<l.length
  ·obtain⟨x,hx⟩:∃ x,l[k]?=some x:=⟨_,List.getElem?_eq_getElem hlt⟩
   have hxm:=List.mem_of_getElem? hx;haveI:=HD.out x hxm;have hxi:=HS.out x hxm
   have ed:(l.drop k).flatMap ym++R1=.num x.id::.num x.txg::.nd x.dir::((l.drop (k+1)).flatMap ym++R1):=by
    rw [List.drop_eq_getElem_cons hlt,(List.getElem?_eq_some_iff.1 hx).2,List.flatMap_cons];rfl
   have et:Ye (l.take (k+1))=Ye (l.take k)++[x.cs]:=by rw [List.take_add_one,hx];simp [Ye]
   rw [ed]at B;obtain⟨R2,hR2⟩:∃ R2,(l.drop (k+1)).flatMap ym++R1=R2:=⟨_,rfl⟩
   rw [hR2]at B;have ET:=Lib.hid et;have HR2:=Lib.hid hR2;clear ed et hx hxm hR2;have C1:=Qm (r:=r) (b:=b) (t:=t) (R:=.num x.txg::.nd x.dir::R2) x.id 4611686018427387903 (by omega) (by decide);have C2:=Qm (r:=r) (b:=b) (t:=t) (R:=.nd x.dir::R2) x.txg 4611686018427387903 (by omega) (by decide);have C3:Tq 81 #[pV r] (RdT r b t (.nd x.dir::R2)) λ v q=>v=.agg #[.int .i64 x.dir.size,.int .i64 x.dir.root.ag,.int .i64 x.dir.root.aa,.int .i64 x.dir.root.bg,.int .i64 x.dir.root.ba,.bool x.dir.root.two,.int .i64 x.dir.root.size,.int .i64 x.dir.root.level,.int .i64 x.dir.root.birth,.int .u64 x.dir.root.sum.a,.int .u64 x.dir.root.sum.b,.int .u64 x.dir.root.sum.c,.int .u64 x.dir.root.sum.d]/\q=RdT r b t R2:=Zay x.dir
   go_wp2_with fail;refine Yn (W:=W) (h:=λ _=>none) B ?_;clear B;intro w6 B;obtain⟨HL,hHL⟩:∃ HL:List SP,HL=[Zd p7 (mC live (.slice sa k scap) (.slice none 0 0)) 78]:=⟨_,rfl⟩
   have in0:In (star HL) w6:=by
    rw [hHL];obtain⟨h0,p,hw⟩:=(B.app [_]).mem (i:=0) rfl;exact⟨h0,p,hw⟩
   have i1:∀ x:JD (star HL),Zh x.w p7 (mC live (.slice sa k scap) (.slice none 0 0)):=λ x=>ZU x.h (k:=0) (by rw [hHL];rfl)
   have HHL:=Lib.hid hHL;clear hHL;have GH:=Zq (star HL);haveI:Nonempty (JD (star HL)):=⟨⟨w6,in0⟩⟩
   refine ZZ (YT (star HL)) [3,5,7,9] (.q [2] (.f [0,1,4,6] (.x [3] (.x [5] (.x [7] (.q [8] (.x [9] (.x [10] (.q [11] (.x [12] .d)))))))))) GH (YT.of in0) (by kernel_rfl) (by kernel_rfl) ?_;simp only [Zk.runC,pick,List.getElem?_cons_zero,List.getElem?_cons_succ,List.cons_append,List.nil_append]
   (repeat(first|((with_reducible apply Zc);(·exact rfl);(·rintro _ ⟨gq,rfl⟩;exact ii);go_frame)|go_big_quiet_step (exact qZ)));refine nZ ?_
   (repeat(first|((with_reducible apply Zc);(·exact rfl);(·rintro _ ⟨gq,rfl⟩;exact ii);go_frame)|go_big_quiet_step (exact qZ)));refine nZ ?_
   refine Z4 ?_;intro w7 D1;clear B;go_wp2_with fail;refine(Bt.call C1).mono ?_;rintro e w8 ⟨v,q,rfl,⟨rfl,rfl⟩,D2⟩;clear D1 C1 in0;dsimp only
   haveI in1:In (star HL) w8:=by
    rw [HHL.out];obtain⟨h0,p,hw⟩:=(D2.app [_]).mem (i:=0) rfl;exact⟨h0,p,hw⟩
   go_wp2_with fail;dsimp only [Nx];refine⟨_,⟨Zq _,λ v hv=>hv⟩,λ _=>YT.of in1,?_⟩;refine Z4 ?_;intro w9 D3;clear D2 in1;go_wp2_with fail;refine(Bt.call C2).mono ?_;rintro e w10 ⟨v,q,rfl,⟨rfl,rfl⟩,D4⟩;clear D3 C2;dsimp only
   haveI in1:In (star HL) w10:=by
    rw [HHL.out];obtain⟨h0,p,hw⟩:=(D4.app [_]).mem (i:=0) rfl;exact⟨h0,p,hw⟩
   go_wp2_with fail;dsimp only [Nx];refine⟨_,⟨Zq _,λ v hv=>hv⟩,λ _=>YT.of in1,?_⟩;refine Z4 ?_;intro w11 D5;clear D4 in1;go_wp2_with fail;refine(Bt.call C3).mono ?_;rintro e w12 ⟨v,q,rfl,⟨rfl,rfl⟩,D6⟩;clear D5 C3;dsimp only
   haveI in1:In (star HL) w12:=by
    rw [HHL.out];obtain⟨h0,p,hw⟩:=(D6.app [_]).mem (i:=0) rfl;exact⟨h0,p,hw⟩
   go_wp2_with fail;dsimp only [Nx];refine⟨_,⟨Zq _,λ v hv=>hv⟩,λ _=>YT.of in1,?_⟩
   (repeat(first|((with_reducible apply Zc);(·exact rfl);(·rintro _ ⟨gq,rfl⟩;exact ii);go_frame)|go_big_quiet_step (exact qZ)));refine nZ ?_
   rintro w13 hw13;have D7:Bt W (λ _=>none) _ w13:=Ze hw13;haveI in2:In (star HL) w13:=by obtain⟨g,rfl⟩:=hw13;infer_instance
   clear hw13 D6 in1;go_wp2_with fail;dsimp only [Nx];refine⟨_,⟨Zq _,λ v hv=>hv⟩,λ _=>YT.of ii,?_⟩;refine Z4 ?_;intro w14 D8;clear D7 in2;go_wp2_with(at_builtin;(with_reducible apply ZI);(·exact rfl);(·exact rfl);(·exact ii);(·exact ii);(·exact ii);(·exact rfl);(·decide);(·omega);intro gA capA wA bA;(try dsimp only at bA));dsimp only [Nx];refine⟨_,⟨Zq _,λ v hv=>hv⟩,λ h=>absurd h (by decide),?_⟩
   (try go_frame)
   (repeat go_big_quiet_step (exact qZ));refine nZ ?_
   rintro w15 hw15;have D9:Bt W (λ _=>none) _ w15:=bA.cls hw15;clear hw15 bA D8;go_wp2_with fail;dsimp only [Nx];refine⟨_,⟨Zq _,λ v hv=>hv⟩,λ h=>absurd h (by decide),?_⟩;refine Z4 ?_;intro w16 D10;clear D9;go_wp2_with fail;refine⟨⟨k+1,some ⟨gA,0,none⟩,capA,hlt,by go_num,?_⟩,by simp [intOf];omega⟩;rw [ET.out,HR2.out];exact D10.drop
  ·obtain rfl:l.length=k:=by omega
   rw [List.drop_length,List.flatMap_nil,List.nil_append,List.take_length,<- HR1.out]at B;clear HR1 HD HS;generalize hR3:(Tok.num n::Jm (2*n))=R3 at B;have HR3:=Lib.hid hR3;clear hR3;go_wp2_with fail;refine Yn (W:=W) (h:=λ _=>none) (l:=[Zd wr.heap.size z9 176,_,_,_,_,_]) ii ?_;clear B;intro w6 B;generalize wr.heap.size=p9 at *
   go_loopw [34] (λ iv wr=>∃(j:Nat),j<=9/\iv=.int .i64 j/\Bt W (λ _=>none) [Zd p9 z9 176,Zd p7 (mC live (.slice sa l.length scap) (.slice none 0 0)) 78,RdT r b t (Jm (9-j)++R3),Zw 125 15 sa l.length scap (Ye l),Zd (W.heap.size+1) stz 78,Zd W.heap.size #[.slice s.ad s.len s.cap,.int .i64 secs] 24] wr)
    (λ iv _=>9-(intOf iv).toNat)
   case atStart=>exact⟨0,Nat.zero_le _,rfl,B⟩
   case round =>
    clear B;obtain⟨j,hj,rfl,B⟩:=hrel
    by_cases hlj:j<9
    ·have ez:Jm (9-j)++R3=.num 0::(Jm (9-(j+1))++R3):=by
      obtain⟨i,hi⟩:∃ i,9-j=i+1:=⟨8-j,by omega⟩
      rw [hi,show 9-(j+1)=i by omega];rfl
     rw [ez]at B;have HZ:=Lib.hid (Zli hlj);have C1:=Qm (r:=r) (b:=b) (t:=t) (R:=Jm (9-(j+1))++R3) 0 4611686018427387903 (by decide) (by decide);clear ez;go_wp2_with fail;refine(Bt.call C1).mono ?_;rintro e w8 ⟨v,q,rfl,⟨rfl,rfl⟩,D2⟩;clear B C1;dsimp only;go_wp2_with fail;refine⟨⟨j+1,hlj,by go_num,?_⟩,by simp [intOf];omega⟩;rw [<-HZ.out];exact ii
    ·obtain rfl:9=j:=by omega
     rw [Nat.sub_self,<- HR3.out]at B;replace B:Bt W (λ _=>none) [_,_,RdT r b t (.num n::Jm (2*n)),_,_,_] wr:=B;have C1:=Qm (r:=r) (b:=b) (t:=t) (R:=Jm (2*n)) n 100 (by omega) (by decide);clear HR3;go_wp2_with((with_reducible apply Zb);(·exact rfl);(·exact rfl);(·exact ii));refine(Bt.call C1 (B:=ii)).mono ?_;rintro e w8 ⟨v,q,rfl,⟨rfl,rfl⟩,D2⟩;clear B C1;dsimp only;have D3:=D2.drop.more (Zw.nil 92 2 _);clear D2;simp only [List.cons_append,List.nil_append]at D3;have D4:=Bt.oS (D3) [0,1,5,2,3,4];clear D3;go_wp2_with fail
     go_loopw [64] (λ iv wr=>∃(j:Nat)(ra:Option Addr)(rcap:Nat),j<=n/\iv=.int .i64 j/\Bt W (λ _=>none) [Zd p7 (mC live (.slice sa l.length scap) (.slice ra j rcap)) 78,RdT r b t (Jm (2*(n-j))),Zw 92 2 ra j rcap (YU j),Zw 125 15 sa l.length scap (Ye l),Zd (W.heap.size+1) stz 78,Zd W.heap.size #[.slice s.ad s.len s.cap,.int .i64 secs] 24] wr)
      (λ iv _=>n-(intOf iv).toNat)
     case atStart=>exact⟨0,none,0,Nat.zero_le _,rfl,D4⟩
     case round =>
      clear D4;obtain⟨j,ra,rcap,hj,rfl,B⟩:=hrel
      by_cases hlj:j<n
      ·have ez:Jm (2*(n-j))=.num 0::.num 0::Jm (2*(n-(j+1))):=by
        obtain⟨i,hi⟩:∃ i,n-j=i+1:=⟨n-j-1,by omega⟩
        rw [hi,show n-(j+1)=i by omega];rfl
       rw [ez]at B;have et:YU (j+1)=YU j++[[.int .i64 0,.int .i64 0]]:=by simp [YU,List.replicate_succ']
       have ET:=Lib.hid et;obtain⟨R2,hR2⟩:∃ R2,Jm (2*(n-(j+1)))=R2:=⟨_,rfl⟩
       rw [hR2]at B;have HR2:=Lib.hid hR2;clear hR2;have C1:=Qm (r:=r) (b:=b) (t:=t) (R:=.num 0::R2) 0 4611686018427387903 (by decide) (by decide);have C2:=Qm (r:=r) (b:=b) (t:=t) (R:=R2) 0 4611686018427387903 (by decide) (by decide);clear ez et;go_wp2_with fail;refine Yn (W:=W) (h:=λ _=>none) B ?_;clear B;intro w6 B;obtain⟨HL,hHL⟩:∃ HL:List SP,HL=[Zd p7 (mC live (.slice sa l.length scap) (.slice ra j rcap)) 78]:=⟨_,rfl⟩
       have in0:In (star HL) w6:=by
        rw [hHL];obtain⟨h0,p,hw⟩:=(B.app [_]).mem (i:=0) rfl;exact⟨h0,p,hw⟩
       have i1:∀ x:JD (star HL),Zh x.w p7 (mC live (.slice sa l.length scap) (.slice ra j rcap)):=λ x=>ZU x.h (k:=0) (by rw [hHL];rfl)
       have HHL:=Lib.hid hHL;clear hHL;have GH:=Zq (star HL);haveI:Nonempty (JD (star HL)):=⟨⟨w6,in0⟩⟩
       refine ZZ (YT (star HL)) [3,5,7] (.q [2] (.f [0,1,4] (.x [3] (.x [5] (.q [6] (.x [7] (.x [8] (.q [9] (.x [10] .d))))))))) GH (YT.of in0) (by kernel_rfl) (by kernel_rfl) ?_;simp only [Zk.runC,pick,List.getElem?_cons_zero,List.getElem?_cons_succ,List.cons_append,List.nil_append]
       (repeat(first|((with_reducible apply Zc);(·exact rfl);(·rintro _ ⟨gq,rfl⟩;exact ii);go_frame)|go_big_quiet_step (exact qZ)));refine nZ ?_
       (repeat(first|((with_reducible apply Zc);(·exact rfl);(·rintro _ ⟨gq,rfl⟩;exact ii);go_frame)|go_big_quiet_step (exact qZ)));refine nZ ?_
       refine Z4 ?_;intro w7 D1;clear B;go_wp2_with fail;refine(Bt.call C1).mono ?_;rintro e w8 ⟨v,q,rfl,⟨rfl,rfl⟩,D2⟩;clear D1 C1 in0;dsimp only
       haveI in1:In (star HL) w8:=by
        rw [HHL.out];obtain⟨h0,p,hw⟩:=(D2.app [_]).mem (i:=0) rfl;exact⟨h0,p,hw⟩
       go_wp2_with fail;dsimp only [Nx];refine⟨_,⟨Zq _,λ v hv=>hv⟩,λ _=>YT.of in1,?_⟩;refine Z4 ?_;intro w9 D3;clear D2 in1;go_wp2_with fail;refine(Bt.call C2).mono ?_;rintro e w12 ⟨v,q,rfl,⟨rfl,rfl⟩,D6⟩;clear D3 C2;dsimp only
       haveI in1:In (star HL) w12:=by
        rw [HHL.out];obtain⟨h0,p,hw⟩:=(D6.app [_]).mem (i:=0) rfl;exact⟨h0,p,hw⟩
       go_wp2_with fail;dsimp only [Nx];refine⟨_,⟨Zq _,λ v hv=>hv⟩,λ _=>YT.of in1,?_⟩
       (repeat(first|((with_reducible apply Zc);(·exact rfl);(·rintro _ ⟨gq,rfl⟩;exact ii);go_frame)|go_big_quiet_step (exact qZ)));refine nZ ?_
       rintro w13 hw13;have D7:Bt W (λ _=>none) _ w13:=Ze hw13;haveI in2:In (star HL) w13:=by obtain⟨g,rfl⟩:=hw13;infer_instance
       clear hw13 D6 in1;go_wp2_with fail;dsimp only [Nx];refine⟨_,⟨Zq _,λ v hv=>hv⟩,λ _=>YT.of ii,?_⟩;refine Z4 ?_;intro w14 D8;clear D7 in2;go_wp2_with(at_builtin;(with_reducible apply ZI);(·exact rfl);(·exact rfl);(·exact ii);(·exact ii);(·exact ii);(·exact rfl);(·decide);(·omega);intro gA capA wA bA;(try dsimp only at bA));dsimp only [Nx];refine⟨_,⟨Zq _,λ v hv=>hv⟩,λ h=>absurd h (by decide),?_⟩
       (try go_frame)
       (repeat go_big_quiet_step (exact qZ));refine nZ ?_
       rintro w15 hw15;have D9:Bt W (λ _=>none) _ w15:=bA.cls hw15;clear hw15 bA D8;go_wp2_with fail;dsimp only [Nx];refine⟨_,⟨Zq _,λ v hv=>hv⟩,λ h=>absurd h (by decide),?_⟩;refine Z4 ?_;intro w16 D10;clear D9;go_wp2_with fail;refine⟨⟨j+1,some ⟨gA,0,none⟩,capA,hlj,by go_num,?_⟩,by simp [intOf];omega⟩;rw [ET.out,HR2.out];exact D10.drop
      ·obtain rfl:n=j:=by omega
       rw [Nat.sub_self,Nat.mul_zero]at B;replace B:Bt W (λ _=>none) (_::RdT r b t []::_) wr:=B;have B1:=Bt.oS (B) [1,0,2,3,4,5];obtain⟨i,hi,B2⟩:=B1.rdt;clear B B1;haveI:Bd t i:=⟨hi.lo,hi.hi,hi.sz⟩
       have z0:Qd t i=true:=hi.nil
       have ZR:∀ w,[yc b t i w]->Fn 83 #[.pointer (some ⟨b,0,none⟩)] w (.bool true):=λ w _=>by
        have:=ZaV b t i w
        rwa [z0]at this
       have r4:=Yo B2 (i:=4) rfl;have r3:=Yo B2 (i:=3) rfl;haveI:=r4.1;haveI:=r3.1;haveI:=B2.gm m;have hc:=r4.2.1;have MR:∀ w,[GM s w]->[Zy 15 sa l.length scap (Ye l) w]->[Zy 2 ra n rcap (YU n) w]->Fn 84 #[.agg #[.slice s.ad s.len s.cap,.int .i64 secs],.agg (mC live (.slice sa l.length scap) (.slice ra n rcap))] w (.bool true):=λ w _ _ _=>HMR.out w ii sa scap ii ra rcap ii hc
       clear z0 hi r4 r3 hc HMR;go_wp2_with(first|(with_reducible refine Fn.go λ g=>?_)|((with_reducible apply Za);(·exact rfl);(·exact ii))|((with_reducible apply Z2);(·exact rfl);(·exact rfl);(·exact ii))|((with_reducible apply Zb);(·exact rfl);(·exact rfl);(·exact ii)))
       (refine bodyPost_ret (Zt (z:=24) rfl _ _ _ _ rfl inferInstance Tryz.underlying78 rfl (by kernel_rfl)) rfl ?_)
       refine⟨sa,scap,ra,rcap,rfl,?_⟩;refine ZkR (l:=[_,_,_,Zw 92 2 ra n rcap (YU n),Zw 125 15 sa l.length scap (Ye l),_,_]) ii ?_;intro w9 E1;have E2:=Bt.oS (E1) [4,3,0,1,2,5,6];exact(E2.app [_,_]).new1
theorem Zlf(w:World)(d:Nat)(n:Nd):(Op.equalIn (d+4) 52 (.agg n.cs) (.agg n.cs)).run Tryz.prog w=.ok true w :=
 QO w (d+3) _ _ _ [(3,0),(50,1)] _ (by kernel_rfl) (by kernel_rfl) (by kernel_rfl) (by kernel_rfl) ⟨.int .i64 n.size,.int .i64 n.size,(n.size==n.size),Uz n.root n.root&&true,by kernel_rfl,by kernel_rfl,run_equalIn_int w _ _ _ _ _ _ Tryz.underlying3,⟨.agg n.root.cs,.agg n.root.cs,Uz n.root n.root,true,by kernel_rfl,by kernel_rfl,UK w _ _ _,rfl,rfl⟩,by rw [(J5 n.root n.root).2 rfl,beq_self_eq_true];rfl⟩
theorem ZfS(w:World)(d:Nat)(t:Int)(n:Nd):(Op.equalIn (d+5) 54 (.agg (Jn t n)) (.agg (Jn t n))).run Tryz.prog w=.ok true w :=
 QO w (d+4) _ _ _ [(3,0),(52,1)] _ (by kernel_rfl) (by kernel_rfl) (by kernel_rfl) (by kernel_rfl) ⟨.int .i64 t,.int .i64 t,(t==t),true,by kernel_rfl,by kernel_rfl,run_equalIn_int w _ _ _ _ _ _ Tryz.underlying3,⟨.agg n.cs,.agg n.cs,true,true,by kernel_rfl,by kernel_rfl,Zlf w d n,rfl,rfl⟩,by rw [beq_self_eq_true];rfl⟩
theorem ZbX(w:World)(t:Int)(n:Nd):(binOp .neq 54 (.agg (Jn t n)) (.agg (Jn t n))).run Tryz.prog w=.ok (.bool false) w:=by
 rw [run_neq_struct,ZfS w 9995 t n];rfl
theorem Zb4(w:World)(t:Int)(n:Nd):(binOp .eql 54 (.agg (Jn t n)) (.agg (Jn t n))).run Tryz.prog w=.ok (.bool true) w:=by
 rw [run_eql_struct,ZfS w 9995 t n];rfl
theorem ZcB(V:VD)(F:Nat->Nat->ByteArray)(pb:Nat)(txg:Nat)(root live:Nd)(ss sl b work was:Value)(W:World)[k:Zh W pb (X7 V txg root live ss sl b work was)][D:Zn V F W]
  (HO:∀(d:Nat)(w:World),d<V.ds.length->Zn V F w->Fn 76 #[V.v,.int .i64 d,.int .i64 (txg%4:Nat)] w (.tuple #[.agg (Jn txg root),.int .i64 0])) :
  Calls Tryz.prog 38 #[pV pb] W λ e w'=>(∃ v,e=.returned v)/\∃ g,w'=gr W g:=by
 haveI:Yc pb W:=k.old;have hle:=(Zo V F W).1.le;have HX:∀(w:World)(d:Nat),Zn V F w->d<V.ds.length->Fn 62 #[V.v,.int .i64 d] w (.bool true):=λ w d _ h=>KU V F w d h
 have QU:=λ w=>ZbX w txg root
 go_in
 go_wp2_with fail
 go_loopw [11] (λ i wr=>∃ d:Nat,d<=V.ds.length/\i=.int .i64 d/\∃ g,wr=gr W g) (λ i _=>V.ds.length-(intOf i).toNat)
 case atStart=>exact⟨0,Nat.zero_le _,rfl,Y1 W⟩
 case round =>
  obtain⟨d,hd,rfl,g,rfl⟩:=hrel
  by_cases hlt:d<V.ds.length
  ·have HX1:∀ w,[Zn V F w]->Fn 62 #[V.v,.int .i64 d] w (.bool true):=λ w _=>HX w d ii hlt
   have HO1:∀ w,[Zn V F w]->Fn 76 #[V.v,.int .i64 d,.int .i64 ((txg:Int)%4)] w (.tuple #[.agg (Jn txg root),.int .i64 0]):=λ w _=>HO d w hlt ii
   clear HO HX
   have back:∀ w',(∃ g',w'=gr (gr W g) g')->∃ g',w'=gr W g':=by
    rintro _ ⟨g',rfl⟩;exact⟨_,ZW ..⟩
   have k0:Zh (gr W g) pb (X7 V txg root live ss sl b work was):=ii;have d0:Zn V F (gr W g):=ii;have HB:=Lib.hid back;clear back;generalize gr W g=w0 at *
   haveI BZ:=Bt.zero w0;have HH:=Lib.hid HO1;clear HO1;go_wp2_with fail;refine plZ (.q [0,1,2,3,4,5,6,7,8,9,10] (.y 11 15 (.q [12,13] (.f [14] (.g 15 (.x [16] (.q [17] .d))))) (.x [11] (.q [12,13] (.f [14] (.x [16] (.q [17] .d))))))) ?_;simp only [Zk.run,pick,gZ,gS,gA,gN]
   (repeat(first|((with_reducible apply Zc);(·exact rfl);(·rintro _ ⟨gq,rfl⟩;exact ii);go_frame)|go_big_quiet_step (exact qZ)));refine nZ ?_
   refine⟨?_,?_⟩;rintro w1 hw1;have B1:Bt w0 (λ _=>none) [] w1:=Ze hw1;haveI d1:Zn V F w1:=by obtain⟨g,rfl⟩:=hw1;infer_instance
   clear hw1;go_wp2_with fail;refine(HH.out w1).1.mono ?_;rintro e w2 ⟨rfl,hb⟩;have B2:Bt w0 (λ _=>none) _ w2:=Ze (Zf hb);clear hb B1 d1;dsimp only;go_wp2_with fail;dsimp only [Nx]
   (repeat(first|((with_reducible apply Zc);(·exact rfl);(·rintro _ ⟨gq,rfl⟩;exact ii);go_frame)|go_big_quiet_step (exact qZ)));refine nZ ?_
   (repeat(first|((with_reducible apply Zc);(·exact rfl);(·rintro _ ⟨gq,rfl⟩;exact ii);go_frame)|go_big_quiet_step (exact qZ)));refine nZ ?_
   rintro w3 hw3;have B3:Bt w0 (λ _=>none) _ w3:=Ze hw3;go_wp2_with fail;dsimp only [Nx];refine⟨Kw hw3 _,?_⟩;clear hw3;refine Z4 ?_;intro w4 B4;clear B3 B2;generalize w3.heap.size=p3 at *
   go_wp2_with((with_reducible apply Zb);(·exact rfl);(·exact rfl);(·exact ii));dsimp only [Nx]
   (repeat(first|((with_reducible apply Zc);(·exact rfl);(·rintro _ ⟨gq,rfl⟩;exact ii);go_frame)|go_big_quiet_step (exact qZ)));refine nZ ?_
   rintro w5 hw5;have B5:Bt w0 (λ _=>none) [Zd p3 (Jn txg root) 54] w5:=Ze hw5;clear hw5 B4
   rotate_left
   rintro w3 hw3;have B3:Bt w0 (λ _=>none) [] w3:=Ze hw3;go_wp2_with fail;dsimp only [Nx];refine⟨Kw hw3 _,?_⟩;clear hw3;refine Z4 ?_;intro w4 B4;clear B3;generalize w3.heap.size=p3 at *
   haveI d1:Zn V F w4:=by obtain⟨g,rfl⟩:=B4.gr_of;infer_instance
   go_wp2_with fail;refine(HH.out w4).1.mono ?_;rintro e w2 ⟨rfl,hb⟩;have B2:Bt w0 (λ _=>none) _ w2:=Ze (Zf hb);clear hb B4 d1;dsimp only;go_wp2_with fail;dsimp only [Nx]
   (repeat(first|((with_reducible apply Zc);(·exact rfl);(·rintro _ ⟨gq,rfl⟩;exact ii);go_frame)|go_big_quiet_step (exact qZ)));refine nZ ?_
   (repeat(first|((with_reducible apply Zc);(·exact rfl);(·rintro _ ⟨gq,rfl⟩;exact ii);go_frame)|go_big_quiet_step (exact qZ)));refine nZ ?_
   refine Z4 ?_;intro w7 B3;clear B2;go_wp2_with((with_reducible apply Zb);(·exact rfl);(·exact rfl);(·exact ii));dsimp only [Nx]
   (repeat(first|((with_reducible apply Zc);(·exact rfl);(·rintro _ ⟨gq,rfl⟩;exact ii);go_frame)|go_big_quiet_step (exact qZ)));refine nZ ?_
   rintro w5 hw5;have B5:Bt w0 (λ _=>none) [Zd p3 (Jn txg root) 54] w5:=Ze hw5;clear hw5 B3
   all_goals
    haveI d5:Zn V F w5:=by obtain⟨g,rfl⟩:=B5.gr_of;infer_instance
    haveI k5:Zh w5 pb (X7 V txg root live ss sl b work was):=by obtain⟨g,rfl⟩:=B5.gr_of;infer_instance
    go_wp2_with fail;refine plZ (.q [0,1,2,3,4,5,6,7,8,9,10,11,12,13,14,15,16,17] .d) ?_;simp only [Zk.run,pick,gZ,gS,gA,gN]
    (repeat(first|((with_reducible apply Zc);(·exact rfl);(·rintro _ ⟨gq,rfl⟩;exact ii);go_frame)|go_big_quiet_step (exact qZ)));refine nZ ?_
    rintro w6 hw6;have B6:Bt w0 (λ _=>none) [Zd p3 (Jn txg root) 54] w6:=Ze hw6;clear hw6 B5 d5 k5;go_wp2_with fail;exact⟨⟨d+1,hlt,by go_num,HB.out _ B6.gr_of⟩,by simp [intOf];omega⟩
  ·obtain rfl:V.ds.length=d:=by omega
   go_wp2_with fail;go_end0;exact⟨⟨_,rfl⟩,_,rfl⟩
end Go.Proofs.YtlfjdjndhcmliaaGreatDoor
