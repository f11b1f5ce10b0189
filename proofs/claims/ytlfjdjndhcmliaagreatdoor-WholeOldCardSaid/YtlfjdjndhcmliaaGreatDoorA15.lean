/- WholeOld, part 15. -/
import Derived.Test.YtlfjdjndhcmliaaGreatDoorA14
set_option maxRecDepth 100000
set_option maxHeartbeats 4000000
set_option linter.all false
namespace Go.Proofs.YtlfjdjndhcmliaaGreatDoor
open Go.RowKit Go.Sort
set_option maxRecDepth 512 in
instance Znh(W:World):Fn 382 #[.agg #[]] W (.string ⟨#[]⟩):=by
 refine⟨?_⟩
 go_in
 go_wp2_with fail;go_ret;exact ZM.mk rfl grown
theorem YM(n j:Nat):ZH (Zx n) j=0:=by
 unfold ZH;rw [Yj,List.getD_eq_getElem?_getD,List.getElem?_replicate];split<;>rfl
theorem Yp(s t:ByteArray)(j:Nat):ZH (s++t) j=if j<s.size then ZH s j else ZH t (j-s.size):=by
 unfold ZH;rw [ZQ,List.getD_eq_getElem?_getD,List.getD_eq_getElem?_getD,List.getD_eq_getElem?_getD,List.getElem?_append,Zi];split<;>rfl
theorem ZjT{s:ByteArray}(h:s.size%64=0):QG s 64=s:=by
 unfold QG;rw [h];refine Yu ?_;rw [ZQ,Yj];simp
theorem VI{s:ByteArray}(h:s.size%64=0)(h2:s.size<=256)(W:World):Fn 217 #[.agg #[.string s]] W (.string s):=by
 haveI:Sz4 s:=⟨by omega⟩
 have e:=Zdt s W;unfold ZdG at e;rw [if_pos h2,ZjT h]at e;exact e
theorem ZeM{b:Nat}{h:Hl}(p:Zd b #[.pointer none,.slice none 0 0] 160 h):Bl b [] (one b (.cells #[.pointer none,.slice none 0 0] 160)) :=
 ⟨_,_,.inl rfl,QF ..,λ k hk=>by
  unfold one at hk;split at hk
  ·left;assumption
  ·exact absurd rfl hk,.inl ⟨rfl,rfl⟩⟩
theorem Bt.bld{W w:World}{h:Hl}{b:Nat}{l:List SP}(B:Bt W h (Zd b #[.pointer none,.slice none 0 0] 160::l) w):Bt W h (Bl b []::l) w:=⟨B.t.mono λ _ ⟨h1,h2,a,b',c,d,e⟩=>by
 have s:qg (one b (.cells #[.pointer none,.slice none 0 0] 160)) h1:=λ n o q=>by
  unfold one at q;split at q
  ·rename_i h1;subst h1;cases q;exact a
  ·cases q
 exact⟨_,h2,ZeM a,b',s.trans c,d,(e.symm.sub s).symm⟩⟩
theorem ZgT(b:Nat)(l:List UInt8)(s:ByteArray)(hlen:l.length+s.size<=1000000):Tq 78 #[.pointer (some ⟨b,0,none⟩),.string s] (Bl b l) λ v q=>v=.tuple #[.int .i64 s.size,.nilIface]/\q=Bl b (l++s.data.toList) :=
 λ W h i p=>(zA h b l s p W hlen).mono λ _ _ ⟨e,t⟩=>⟨_,_,e,⟨rfl,rfl⟩,t⟩
theorem Zk0(b:Nat)(l:List UInt8):Tq 79 #[.pointer (some ⟨b,0,none⟩)] (Bl b l) λ v q=>v=.string ⟨l.toArray⟩/\q=Emp :=
 λ W h i p=>(ZhV h b l p W).mono λ _ _ ⟨e,m⟩=>⟨_,_,e,⟨rfl,rfl⟩,m,λ _=>none,⟨λ _ _ e=>by cases e⟩,λ _ _ _=>rfl,trivial⟩
def wl(g:Nat->UInt8)(off n:Nat):List UInt8:=(List.range n).map λ j=>g (off+j)
theorem ZjB{s:ByteArray}{g:Nat->UInt8}{off m i a b:Nat}(hs:s.size=256)(hg:∀ j,j<256->ZH s j=g (256*i+j))(ha:256*i+a=off+m)(hb:a<=b)(hb2:b<=256):wl g off m++(s.extract a b).data.toList=wl g off (m+(b-a)):=by
 have e:s=txt g (256*i) 256:=Zcl hs hg;subst e;refine List.ext_getElem ?_ λ j h1 h2=>?_
 ·simp [wl,txt,ByteArray.data_extract,Array.toList_extract,List.extract_eq_take_drop];omega
 ·simp only [wl,List.length_map,List.length_range]at h2;rw [List.getElem_append];split
  ·simp [wl]
  ·rename_i h3;simp only [wl,List.length_map,List.length_range]at h3;simp [wl,txt,ByteArray.data_extract,Array.toList_extract,List.extract_eq_take_drop]
   congr 1;omega
section
variable{st:Nat}{S:KS->Nat->SP}(T:VT st S)(K:KS)(c:Nat)
include T
theorem Zga{n:Nd}{g:Nat->UInt8}{i:Nat}(o:Ob K n g)(hi:i<64):Tq 77 #[Jv st,.agg n.cs,.int .i64 i] (S K c) λ v q=>∃ s:ByteArray,(v=.tuple #[.string s,.int .i64 0]/\q=S K c)/\s.size=256/\∀ j,j<256->ZH s j=g (256*i+j):=by
 have L:=Zbe T K c o hi;clear o;refine Tq.of λ W h B=>?_
 go_in
 go_wp2_with((with_reducible apply Za);(·exact rfl);(·exact ii));refine(Bt.call L).mono ?_;rintro e w1 ⟨v,q,rfl,⟨s,⟨rfl,rfl⟩,⟨h4,h2⟩,hs⟩,B1⟩;dsimp only at B1 ⊢;have HR:=λ z hz W=>yM (256-s.size) (by omega) z hz W
 have HD:=VI h4 h2;have Hs:=Lib.hid hs;clear hs h4
 by_cases h0:s.size=0
 ·have e0:itV s=.iface 288 (.agg #[]):=if_pos h0;obtain rfl:s=⟨#[]⟩:=Yu (List.eq_nil_of_length_eq_zero (by rw [Zi];exact h0));rw [e0];clear e0 h0;go_wp2_with(with_reducible refine Fn.go λ g=>?_);refine @Fn.go _ _ _ _ _ (HR _ (by rfl) _) λ g1=>?_
  dsimp only;go_wp2_with fail;go_ret2
  exact⟨_,_,rfl,⟨⟨#[]⟩++Zx 256,⟨rfl,rfl⟩,by rw [Zs,Zr];rfl,λ j hj=>by
   rw [Yp,if_neg (by show ¬ j<0;omega),YM,Hs.out j hj,ZA (Nat.zero_le _)]⟩,Bt.fin⟩
 ·have e0:itV s=.iface 316 (.agg #[.string s]):=if_neg h0;rw [e0];clear e0 h0;go_wp2_with(with_reducible refine Fn.go λ g=>?_);refine @Fn.go _ _ _ _ _ (HR _ (by omega) _) λ g1=>?_
  dsimp only;go_wp2_with fail;go_ret2
  exact⟨_,_,rfl,⟨s++Zx (256-s.size),⟨rfl,rfl⟩,by rw [Zs,Zr];omega,λ j hj=>by
   rw [Yp,YM,Hs.out j hj];split
   ·rfl
   ·rw [ZA (by omega)]⟩,Bt.fin⟩
theorem V7{n:Nd}{g:Nat->UInt8}(o:Ob K n g)(off size:Nat)(hoff:off<=100000)(hsize:size<=100000):Tq 35 #[Jv st,.agg n.cs,.int .i64 off,.int .i64 size] (S K c) λ v q=>v=.tuple #[.string (txt g off (min size (n.size.toNat-off))),.int .i64 0]/\q=S K c:=by
 obtain⟨⟨z0,z1⟩,_,_⟩:=id o;obtain⟨z,hz⟩:=Int.eq_ofNat_of_zero_le z0;have L:=λ i hi=>Zga T K c (i:=i) o hi
 have hn:n=⟨z,n.root⟩:=by cases n;cases hz;rfl
 have e3:n.size.toNat=z:=by omega
 rw [e3];obtain⟨r,hr⟩:∃ r,n.root=r:=⟨_,rfl⟩
 rw [hr]at hn;subst hn;clear hr e3 o hz z0;have z1:z<=16384:=by have:((z:Int))<=16384:=z1;omega
 refine Tq.of λ W h B=>?_
 rcases Nat.lt_or_ge off z with hlt|hge
 ·obtain⟨e,he⟩:∃ e,e=off+min size (z-off):=⟨_,rfl⟩
  have hez:e<=z:=by omega
  have hmin:min size (z-off)=e-off:=by omega
  have hoe:off<=e:=by omega
  have he2:wrap64 ((off:Int)+yA (size:Int) ((z:Int)-off))=e:=by unfold yA wrap64;split<;>omega
  rw [hmin];clear hmin he
  go_in
  go_wp2_with fail
  go_loopw [12] (λ iv wr=>∃ i m:Nat,iv=.int .i64 i/\i<=64/\(m=0/\i=off/256\/off/256<i/\off+m=min (256*i) e)/\Bt W h [Bl (W.heap.size+1) (wl g off m),Zd W.heap.size (Nd.mk z r).cs 52,S K c] wr)
   (λ iv _=>65-(intOf iv).toNat)
  case atStart=>exact⟨off/256,0,by go_num,by omega,.inl ⟨rfl,rfl⟩,Bt.bld ii⟩
  case round =>
   clear B;obtain⟨i,m,rfl,hi,hm,B⟩:=hrel
   by_cases hlt2:(i:Int)*256<e
   ·have L1:=L i (by omega);obtain⟨a,ha⟩:∃ a,a=off-256*i:=⟨_,rfl⟩
    obtain⟨b,hb⟩:∃ b,b=min (e-256*i) 256:=⟨_,rfl⟩
    have h1:Kb ((off:Int)-(i:Int)*256) 0=a:=by unfold Kb;split<;>omega
    have h2:yA ((e:Int)-(i:Int)*256) 256=b:=by unfold yA;split<;>omega
    have hab:a<=b:=by omega
    have hb6:b<=256:=by omega
    have hma:256*i+a=off+m:=by omega
    have hm2:off+(m+(b-a))=min (256*(i+1)) e:=by omega
    have hi2:off/256<i+1:=by omega
    have hm16:m<=20000:=by omega
    have Hm2:=Lib.hid hm2;have Hma:=Lib.hid hma;clear L ha hb hm hm2 hma;go_wp2_with((with_reducible apply Za);(·exact rfl);(·exact ii));refine(Bt.call L1).mono ?_;rintro e w1 ⟨v,q,rfl,⟨s,⟨rfl,rfl⟩,hs,hg⟩,B1⟩;dsimp only at B1 ⊢;have HW:=ZgT (W.heap.size+1) (wl g off m) (s.extract a b) (by simp [wl,ByteArray.size_extract,hs];omega);rw [ZjB hs hg Hma.out hab hb6]at HW;clear hg;go_wp2_with fail;refine(Bt.call HW).mono ?_;rintro e w2 ⟨v,q,rfl,⟨rfl,rfl⟩,B2⟩;dsimp only at B2 ⊢;go_wp2_with fail;exact⟨⟨i+1,m+(b-a),by go_num,by omega,.inr ⟨hi2,Hm2.out⟩,B2⟩,by simp [intOf];omega⟩
   ·have he:m=e-off:=by omega
    have hs:(⟨(wl g off m).toArray⟩:ByteArray)=txt g off (e-off):=by rw [he];rfl
    have Hs:=Lib.hid hs;have HW:=Zk0 (W.heap.size+1) (wl g off m);rw [hs]at HW;clear he hs L;go_wp2_with fail;refine(Bt.call HW).mono ?_;rintro e w1 ⟨v,q,rfl,⟨rfl,rfl⟩,B1⟩;dsimp only at B1 ⊢;go_wp2_with fail;go_ret2
    first|exact⟨_,_,rfl,⟨rfl,rfl⟩,Bt.fin⟩|exact⟨_,rfl,_,⟨rfl,rfl⟩,Bt.fin⟩
 ·have hge2:¬ (off:Int)<z:=by omega
  have e4:min size (z-off)=0:=by omega
  rw [e4];clear e4
  go_in
  go_wp2_with fail;go_ret2
  first|exact⟨_,_,rfl,⟨rfl,rfl⟩,Bt.fin⟩|exact⟨_,rfl,_,⟨rfl,rfl⟩,Bt.fin⟩
end
theorem ZhU(w:World)(l:Nat->Pt):(Instr.build 291 #[(0,.agg (YN l))]).run Tryz.prog w=.ok (.agg (YN l)) w:=by kernel_rfl
section
variable{ops:Array Oper}{rest:List Oper}{a:Act}{d:Option Tmp}{ty:TypeId}{pos:String}{aft:Array Edge}{C:World->Prop}{K:Act->Prop}
theorem YE{o:Oper}{v:Value}(hg:o.guard=none)(hr:∀ w,C w->(execOp a.eval o).run Tryz.prog w=.ok (.value v) w)(h:wpQuiet Tryz.prog ops C K rest (a.put o.dst v)):wpQuiet Tryz.prog ops C K (o::rest) a:=by
 unfold wpQuiet;rw [if_pos (by simp [Region.wanted,hg])];refine⟨v,λ w hw=>?_,h⟩;unfold Oper.quietAt;rw [hr w hw];exact⟨rfl,rfl⟩
theorem Zm{x:Operand}{l:Nat->Pt}(hx:a.eval x=.agg (YN l))(h:wpQuiet Tryz.prog ops C K rest (a.put d (.agg (YN l)))):wpQuiet Tryz.prog ops C K ({ dst:=d,op:=.build 291 #[(0,x)],type:=ty,pos:=pos,after:=aft,guard:=none }::rest) a:=by
 refine YE (v:=.agg _) rfl (λ w hw=>?_) h;simp only [execOp,List.map_toArray,List.map_cons,List.map_nil,hx,Sem.run_bind,ZhU w l,Result.andThen_ok,Sem.run_pure]
theorem Zl{x y:Operand}{z:Int}{p:Pt}(hx:a.eval x=.int .i64 z)(hy:a.eval y=.agg p.cs)(h:wpQuiet Tryz.prog ops C K rest (a.put d (.agg (Nd.mk z p).cs))):wpQuiet Tryz.prog ops C K ({ dst:=d,op:=.build 52 #[(0,x),(1,y)],type:=ty,pos:=pos,after:=aft,guard:=none }::rest) a:=by
 refine YE (v:=.agg _) rfl (λ w hw=>?_) h;simp only [execOp,List.map_toArray,List.map_cons,List.map_nil,hx,hy,Sem.run_bind,ZaM w z p,Result.andThen_ok,Sem.run_pure]
theorem Zcc (b : Nat) (x : Operand) (w : World) : (execOp (λ _ => .func (.method "Put") #[Jv b] #[]) { dst := d, op := .nilCheck x, type := ty, pos := pos, after := aft, guard := none }).run Tryz.prog w = .ok (.value (.func (.method "Put") #[Jv b] #[])) w := by kernel_rfl
theorem Zp {x : Operand} {b : Nat} (hx : a.eval x = .func (.method "Put") #[Jv b] #[]) (h : wpQuiet Tryz.prog ops C K rest (a.put d (.func (.method "Put") #[Jv b] #[]))) : wpQuiet Tryz.prog ops C K ({ dst := d, op := .nilCheck x, type := ty, pos := pos, after := aft, guard := none } :: rest) a := by
 refine YE (v := .func (.method "Put") #[Jv b] #[]) rfl (λ w hw => ?_) h
 refine Eq.trans ?_ (Zcc b x w (d:=d) (ty:=ty) (pos:=pos) (aft:=aft));simp only [execOp,hx]
end
def RP(S:KS->Nat->SP)(K:KS)(c:Nat)(P:Pt->KS->Prop)(v:Value)(q:SP):Prop :=
 (∃ e:Int,e≠0/\v=.tuple #[.agg Pt.none.cs,.int .i64 e]/\q=S K c)\/∃ p K',v=.tuple #[.agg p.cs,.int .i64 0]/\q=S K' c/\K.le K'/\P p K'
def RN(S:KS->Nat->SP)(K:KS)(c:Nat)(P:Nd->KS->Prop)(v:Value)(q:SP):Prop :=
 (∃ e:Int,e≠0/\v=.tuple #[.agg Nd.none.cs,.int .i64 e]/\q=S K c)\/∃ p K',v=.tuple #[.agg p.cs,.int .i64 0]/\q=S K' c/\K.le K'/\P p K'
section
variable{st:Nat}{S:KS->Nat->SP}(T:VT st S)(K:KS)(c:Nat)
include T
theorem js(l:Nat->Pt)[Qi l](lv:Nat)(hl:lv<=3)(hc:1<=c)(hn:yg l Y9=false):Tq 170 #[Jv st,.agg (YN l),.int .i64 lv] (S K c) (RP S K (c-1) λ p K'=>p.isNone=false/\p.level=lv/\K' p (QI l)):=by
 have hz:=(Zab l).1;haveI:kz 265 (YN l) (YN Y9) false:=by have:=Vu l Y9;rw [hn]at this;exact this
 clear hn;have P:=T.put K c (QI l) lv hc hl (by omega) (by omega) (by omega);refine Tq.of λ W h B=>?_
 go_in
 go_wp2_with(first|((with_reducible apply Za);(·exact rfl);(·exact ii))|(with_reducible apply Zj)|((with_reducible apply Jh);(·exact rfl);(·exact rfl);(·exact ii)));refine plZ (.q [0,1,2,3,4,5,6,7] (.x [8] (.q [9,10] (.x [11] (.q [12] .d))))) ?_;simp only [Zk.run,pick,gZ,gS,gA,gN];go_frame
 (repeat(first|((with_reducible apply Zm);(·exact rfl);go_frame)|((with_reducible apply Zl);(·exact rfl);(·exact rfl);go_frame)|((with_reducible apply Zp);(·exact rfl);go_frame)|((with_reducible apply Zc);(·exact rfl);(·rintro _ ⟨gq,rfl⟩;exact ii);go_frame)|go_big_quiet_step (exact qZ)));refine nZ ?_
 rintro w2 hw2;have B2:=Ze hw2;clear hw2;go_wp2_with fail;refine(Bt.call P).mono ?_;rintro e w3 ⟨v,q,rfl,hR,B3⟩;dsimp only at B3 ⊢;rcases hR with ⟨e,he,rfl,rfl⟩|⟨p,rfl,⟨hp,hlv⟩,rfl⟩
 ·go_wp2_with fail;dsimp only [Nx]
  (repeat go_big_quiet_step (exact qZ));refine nZ ?_
  refine Z4 ?_;intro w2 B2;go_wp2_with fail;dsimp only [Nx];(repeat go_big_quiet_step (exact qZ));refine nZ ?_;(first|(rintro w3 hw3;have B3:=Ze hw3;clear hw3)|rintro g3);go_wp2_with fail
  (refine bodyPost_ret (YQ rfl _ _ _ _ rfl ii) rfl ?_)
  exact⟨_,_,rfl,.inl ⟨e,he,rfl,rfl⟩,Bt.fin⟩
 ·have Hp:=Lib.hid hp;have Hl:=Lib.hid hlv;clear hp hlv;go_wp2_with fail;dsimp only [Nx]
  (repeat go_big_quiet_step (exact qZ));refine nZ ?_
  refine Z4 ?_;intro w2 B2;go_wp2_with fail;dsimp only [Nx];(repeat go_big_quiet_step (exact qZ));refine nZ ?_;(first|(rintro w3 hw3;have B3:=Ze hw3;clear hw3)|rintro g3);go_wp2_with fail
  (refine bodyPost_ret (YQ rfl _ _ _ _ rfl ii) rfl ?_)
  exact⟨_,_,rfl,.inr ⟨p,_,rfl,rfl,K.le_add _ _,Hp.out,Hl.out,K.add_at _ _⟩,Bt.fin⟩
theorem Zjb(l:Nat->Pt)[Qi l](lv:Nat)(hl:lv<=3)(hc:1<=c):Tq 170 #[Jv st,.agg (YN l),.int .i64 lv] (S K c) (RP S K (c-1) λ p K'=>yg l Y9=true/\p=Pt.none\/p.isNone=false/\p.level=lv/\K' p (QI l)):=by
 cases hn:yg l Y9
 ·exact(js T K c l lv hl hc hn).mono λ v q h=>⟨q,by
   rcases h with h|⟨p,K',a,b,c,d⟩
   ·exact .inl h
   ·exact .inr ⟨p,K',a,b,c,.inr d⟩,λ _ h=>h⟩
 ·haveI:kz 265 (YN l) (YN Y9) true:=by have:=Vu l Y9;rw [hn]at this;exact this
  have Hn:=Lib.hid hn;clear hn;refine Tq.of λ W h B=>?_
  go_in
  go_wp2_with(first|((with_reducible apply Za);(·exact rfl);(·exact ii))|(with_reducible apply Zj)|((with_reducible apply Jh);(·exact rfl);(·exact rfl);(·exact ii)))
  (refine bodyPost_ret (YQ rfl _ _ _ _ rfl ii) rfl ?_)
  exact⟨_,_,rfl,.inr ⟨Pt.none,K,rfl,rfl,KS.le.refl K,.inl ⟨by first|rfl|trivial,rfl⟩⟩,(Bt.fin (p:=S K c)).mono λ h q=>T.less _ _ _ (by omega) h q⟩
end
end Go.Proofs.YtlfjdjndhcmliaaGreatDoor
