/- WholeOld, part 13. -/
import Derived.Test.YtlfjdjndhcmliaaGreatDoorA12
import Derived.Test.YtlfjdjndhcmliaaGreatDoorA09
set_option maxRecDepth 100000
set_option maxHeartbeats 4000000
set_option linter.all false
namespace Go.Proofs.YtlfjdjndhcmliaaGreatDoor
open Go.RowKit Go.Sort
open Go.Maps Go.ChangeMaps
theorem star.mono2:∀ {l l':List SP} {h:Hl},l.length=l'.length->(∀(i:Nat)(p q:SP),l[i]?=some p->l'[i]?=some q->∀ h,p h->q h)->star l h->star l' h
 | [],[],_,_,_,s=>s
 |p::l,q::l',h,hl,k,s=>by
  obtain⟨h1,h2,a,b,c,d,e⟩:=s;exact⟨h1,h2,k 0 p q rfl rfl _ a,star.mono2 (by simpa using hl) (λ i p q e1 e2=>k (i+1) p q e1 e2) b,c,d,e⟩
theorem Tu.atv{f:FuncId}{args:Array Value}{p q:SP}{v:Value}(t:Tu f args p λ v' h=>v'=v/\q h){l:List SP}{i:Nat}(e:l[i]?=some p):Tu f args (star l) λ v' h=>v'=v/\star (l.set i q) h :=
 (t.at_ e).mono (λ _ h=>h) λ _ _ s=>s.pure (List.getElem?_eq_some_iff.1 e).1
theorem Tu.run{f:FuncId}{args:Array Value}{p q:SP}{v:Value}(t:Tu f args p λ v' h=>v'=v/\q h)(W:World){h:Hl}[hw:Has W h](hp:p h):Calls Tryz.prog f args W λ e w'=>e=.returned v/\Zg W h q w' :=
 (t W h hw hp).mono λ e w' ⟨v',e1,m,h',i,x,e2,hq⟩=>⟨by rw [e1,e2],m,h',i,x,hq⟩
theorem Qh.more{d secs N N':Nat}{f:Nat->ByteArray}{h:Hl}(p:Qh d secs N f h)(hn:N<=N')(hN:N'<=1000000000000):Qh d secs N' f h:=by
 obtain⟨⟨h1,_⟩,M,mc,C,ms,g,i⟩:=p;exact⟨⟨h1,hN⟩,M,mc,C,ms,g,i.dev,i.med,i.len,i.map,λ k b n c e=>⟨Nat.le_trans (i.row k b n c e).1 hn,(i.row k b n c e).2⟩,i.inj,i.ne,i.dM,i.low,i.key,i.sz⟩
def KE(F:Nat->Nat->ByteArray)(d k:Nat)(s:ByteArray)(e:Nat):Nat->ByteArray:=if e=d then Qw (F d) k s else F e
theorem kv{V:VD}{N:Nat}{F:Nat->Nat->ByteArray}{h:Hl}{d dd a:Nat}{s:ByteArray}(ok:V.Ok)(hd:V.ds[d]?=some dd)(hN:N<1000000000000)(st:star ((zT V N F++[X9 V.s,Jd V.lb (zb V.ds),Jd V.ab (List.replicate V.ds.length (.bool false))]).set d (Qh dd V.secs (N+1) (Qw (F d) a s))) h):ZE V (N+1) (KE F d a s) h:=by
 refine⟨ok,star.mono2 (by simp [zT]) (λ i p q e1 e2 h hp=>?_) st⟩
 by_cases hi:d=i
 ·subst hi;have h1:=(List.getElem?_eq_some_iff.1 hd).1;rw [List.getElem?_set_self (by simp [zT];omega)]at e1;rw [Qa hd]at e2;cases e1;cases e2;rw [KE,if_pos rfl];exact hp
 ·rw [List.getElem?_set_ne hi]at e1;rcases Nat.lt_or_ge i V.ds.length with h1|h1
  ·obtain⟨di,hdi⟩:∃ di,V.ds[i]?=some di:=⟨_,List.getElem?_eq_getElem h1⟩
   rw [Qa hdi]at e1 e2;cases e1;cases e2;rw [KE,if_neg (Ne.symm hi)];exact hp.more (by omega) (by omega)
  ·obtain⟨j,rfl⟩:∃ j,i=V.ds.length+j:=⟨i-V.ds.length,by omega⟩
   rw [JU]at e1 e2;rw [e1]at e2;cases e2;exact hp
set_option maxRecDepth 512 in
theorem ZkC(V:VD)(N:Nat)(F:Nat->Nat->ByteArray)(c:YG)(d a:Nat)(hc:c.dev=d)(ha:c.at_=a)(hd:d<V.ds.length)(ha':a<V.secs)(s:ByteArray)(hs:s.size=64)(hN:N<1000000000000) :
  Tu 332 #[V.v,.agg c.cl.toArray,.string s] (ZE V N F) λ v h=>v=.bool true/\ZE V (N+1) (KE F d a s) h:=by
 intro W h hw hp;haveI:Zn V F W:=⟨N,⟨h,hp,hw⟩⟩
 obtain⟨ok,st⟩:=hp;obtain⟨dd,hdd⟩:∃ dd,V.ds[d]?=some dd:=⟨_,List.getElem?_eq_getElem hd⟩
 have HH:∀(W':World),[Zn V F W']->Fn 110 #[V.v,.int .i64 d] W' (.bool true):=λ W' _=>qC V F W' d hd
 have HD:∀ W':World,[Zn V F W']->W'.cell? ⟨V.lb,d,none⟩=some (.pointer (some ⟨dd,0,none⟩)):=λ W' _=>((Zo V F W').2.2.2.2 d dd hdd).2.1
 have ol:=(Zo V F W).2.2.1;have HT:=(Va dd V.secs N (F d) a s ha' hs hN).atv (Qa (N:=N) (F:=F) hdd [X9 V.s,Jd V.lb (zb V.ds),Jd V.ab (List.replicate V.ds.length (.bool false))]);simp only [YG.cl,hc,ha]
 go_in
 go_wp2_with fail;refine plZ (.q [0,1,2,3,4,5,6,7,8,9,10,11,12,13] (.x [14] (.q [15,16,17] .d))) ?_;simp only [Zk.run,pick,gZ,gS,gA,gN]
 (repeat go_big_quiet_step (exact qZ));refine nZ ?_
 rintro W2 ⟨g,rfl⟩;have tn:Tn W h (gr ((W.alloc (.cells V.cs 31)).alloc (.cells #[.int .i64 (d:Int),.int .i64 (a:Int),.bool c.par,.int .i64 c.row] 370)) g) h:=ii;go_wp2_with fail;refine(HT.run _ st).mono ?_;rintro e W3 ⟨rfl,T⟩;replace T:=Zg.after tn.m tn.x (T.mono λ h' p=>kv ok hdd hN p);dsimp only;go_wp2_with fail;dsimp only [Nx]
 (repeat go_big_quiet_step (exact qZ));refine nZ ?_;rintro _ ⟨g,rfl⟩
 go_wp2_with fail;go_ret;exact⟨_,rfl,(T.gr _).mono λ h' p=>⟨rfl,p⟩⟩
theorem ZE.more{V:VD}{N N':Nat}{F:Nat->Nat->ByteArray}{h:Hl}(p:ZE V N F h)(hn:N<=N')(hN:N'<=1000000000000):ZE V N' F h:=by
 obtain⟨ok,st⟩:=p;refine⟨ok,star.mono2 (by simp [zT]) (λ i p q e1 e2 h hp=>?_) st⟩;rcases Nat.lt_or_ge i V.ds.length with h1|h1
 ·obtain⟨di,hdi⟩:∃ di,V.ds[i]?=some di:=⟨_,List.getElem?_eq_getElem h1⟩
  rw [Qa hdi]at e1 e2;cases e1;cases e2;exact hp.more hn hN
 ·obtain⟨j,rfl⟩:∃ j,i=V.ds.length+j:=⟨i-V.ds.length,by omega⟩
  rw [JU]at e1 e2;rw [e1]at e2;cases e2;exact hp
theorem Zg.of_alloc{W w':World}{h:Hl}{P:Hl->Prop}(t:Zg W h P w')(o:Obj):Zg W h P (w'.alloc o):=by
 obtain⟨m,h1,i,x,p⟩:=t;exact⟨m.alloc o,h1,ii,x,p⟩
theorem Xz.cell{h:Hl}{V w:World}(m:Xz h V w){b:Nat}(k:Nat)(o:Yc b V)(e:h b=none):w.cell? ⟨b,k,none⟩=V.cell? ⟨b,k,none⟩:=World.cell?_of_block (m.block b o.h e)
theorem Xz.old{h:Hl}{V w:World}(m:Xz h V w){b:Nat}(o:Yc b V):Yc b w:=⟨Nat.lt_of_lt_of_le o.h m.size⟩
theorem Xz.rds{z:Nat}{ad:Option Addr}{n cap:Nat}{xs:List (List Value)}{W w:World}{h:Hl}(m:Xz h W w)(r:Zy z ad n cap xs W)(hN:∀ a,ad=some a->0<n->h a.block=none):Zy z ad n cap xs w:=⟨r.len,λ k x hx=>by
 obtain⟨b,f,e1,e2,e3⟩:=r.cells k x hx;have hk:=(List.getElem?_eq_some_iff.1 hx).1;have e4:=m.block b e2.h (hN _ e1 (by rw [<-r.len];omega))
 exact⟨b,f,e1,⟨Nat.lt_of_lt_of_le e2.h m.size⟩,λ j v hv=>(World.cell?_of_block e4).trans (e3 j v hv)⟩⟩
theorem Has.none{W:World}{h:Hl}(hw:Has W h){n:Nat}(e:W.heap.size<=n):h n=none:=by
 cases hn:h n with
 |none=>rfl
 |some o=>have:=hw.lt hn;omega
theorem ZC.none{e:TypeId}{z:Nat}{ad:Option Addr}{n cap:Nat}{xs:List Value}{W W1:World}{h:Hl}(o:ZC e z ad n cap xs W W1)(hw:Has W1 h):∀ a,ad=some a->0<n->h a.block=none:=λ a ha hn=>by
 obtain⟨g,hg⟩:=o.some_ (.inr hn);rw [hg]at ha;cases ha;exact hw.none (o.own.lt g (by rw [hg];rfl)).1
theorem qo{s:ZO}{secs:Int}(h:ZT s secs){grp:Nat}(hg:grp<s.len)(at_ size:Int):Ku (Zz s grp at_ size):=by
 unfold Zz;split
 ·intro c hc hp;simp only [Zbr,List.mem_map]at hc;obtain⟨_,_,rfl⟩:=hc;cases hp
 ·exact Zbh _ _ _ _
def wrc(F:Nat->Nat->ByteArray)(l:List (YG × ByteArray)):Nat->Nat->ByteArray:=l.foldl (λ F x=>KE F x.1.dev.toNat x.1.at_.toNat x.2) F
theorem Zf9(F:Nat->Nat->ByteArray)(L:List YG)(E:List ByteArray)(k:Nat)(c:YG)(s:ByteArray)(hc:L[k]?=some c)(hs:E[k]?=some s):wrc F ((L.zip E).take (k+1))=KE (wrc F ((L.zip E).take k)) c.dev.toNat c.at_.toNat s:=by
 rw [List.take_add_one,(List.getElem?_zip_eq_some (z:=(c,s))).2 ⟨hc,hs⟩];simp [wrc]
theorem Zh0{W:World}{b c:Nat}(h:W.heap[b]?=some (.map #[] c))(ty:TypeId):(Builtin.len_ #[426] ty #[.map (some b)]).run Tryz.prog W=.ok (.int .i64 0) W:=by
 simp [Builtin.len_,run_underlying Tryz.underlying426,MapKept.run_getObj_map h,Result.andThen];rfl
theorem Zef(V:VD)(N:Nat)(F:Nat->Nat->ByteArray)(grp at_ z:Nat)(t:ByteArray)(ht:t.size=64*z)(hm:XG V.s V.secs grp at_ z=true)(hN:N+32<=1000000000000) :
  Tu 326 #[V.v,.agg #[.int .i64 grp,.int .i64 at_],.string t] (ZE V N F) λ v h=>v=.tuple #[.int .i64 0,.int .i64 0]/\ZE V (N+32) (wrc F ((Zz V.s grp at_ z).zip (XT (Zz V.s grp at_ z) (Z6 t z)))) h:=by
 intro W h hw hp;haveI:Zn V F W:=⟨N,⟨h,hp,hw⟩⟩
 obtain⟨ok,gm,ol,oa,_⟩:=Zo V F W;haveI:Ky V.s V.secs:=⟨ok.g⟩
 obtain⟨⟨g0,g1⟩,⟨z0,z1⟩,a0,a1⟩:=Xg hm;have hz:1<=z/\z<=4:=by omega
 have hg:grp<V.s.len:=by omega
 obtain⟨l1,l2⟩:=JX ok.g hg (at_:=at_) hz;have hrow:Ku (Zz V.s grp at_ z):=qo ok.g hg _ _;have HR:∀ W':World,[Zn V F W']->Fn 69 #[V.v] W' (.bool true):=λ W' _=>YZ V F W'
 have EA:∀ w,GM V.s w->_:=λ w (_:GM V.s w)=>jl V.s V.secs grp at_ w t z ht hz hm l2 (by omega) hrow
 have OA:∀ w,GM V.s w->_:=λ w (_:GM V.s w)=>kR V.s V.secs grp at_ z w
 have hm':=Lib.hid hm;have hin:∀(k:Nat)(c:YG),(Zz V.s grp at_ z)[k]?=some c->_:=λ k c e=>ZgY ok hm e
 have hE:=kH (D:=Z6 t z) (λ e=>by have:=XX t z;rw [e]at this;simp at this;omega) (Kr t z ht) hrow;have hEl:=zM (Zz V.s grp at_ z) (Z6 t z);have hW:=Yk ok.g hg;generalize XT (Zz V.s grp at_ z) (Z6 t z)=E at *
 generalize Zz V.s grp at_ z=L at *
 generalize hn:L.length=n at *
 clear hm;have hq:((t.size:Int)/64)=z:=by omega
 go_in
 go_wp2_with(with_reducible refine Fn.go λ g=>?_);refine(EA _ (by have:=λ w (_:Zn V F w)=>Qq V F w;exact this _ ii)).mono ?_;rintro e V1 ⟨ad1,rfl,o1⟩;have R1:Zy 1 ad1 n n (ZG E) V1:=o1.rdS;have n1:=o1.none (h:=h) ii;obtain⟨g1,hV⟩:=o1.grw;clear o1;haveI:Zn V F V1:=by rw [hV];infer_instance
 haveI:Has V1 h:=by rw [hV];infer_instance
 haveI o3:Yc W.heap.size V1:=by rw [hV];infer_instance
 haveI o4:Yc (W.heap.size+1) V1:=by rw [hV];infer_instance
 have hB:∃ g,V1=gr W g:=Zf (by rw [hV];(repeat' (first|(with_reducible exact Below.refl _ _)|(with_reducible refine Xc ?_ _)|(with_reducible refine Z5 ?_ _)|(with_reducible refine Below.setCell ?_ ?_ _)|(with_reducible refine Below.drew ?_)|(simp [go_sem];done)|(simp [go_sem];omega))));have c3:∀ j:Nat,V1.cell? ⟨W.heap.size,j,none⟩=V.cs[j]?:=λ j=>by rw [hV];simp [go_sem]
 have c4:∀ j:Nat,V1.cell? ⟨W.heap.size+1,j,none⟩=(#[.int .i64 (grp:Int),.int .i64 (at_:Int)]:Array Value)[j]?:=λ j=>by rw [hV];simp [go_sem]
 clear hV;dsimp only;go_wp2_with fail;refine(OA _ (by have:=λ w (_:Zn V F w)=>Qq V F w;exact this _ ii)).mono ?_;rintro e V2 ⟨hy,hno⟩;obtain⟨ad2,cap2,rfl,o2⟩:=hy hm'.out;clear hy hno;have R2:=ZC.rd (xs:=Ym L) (W1:=_) (e:=370) (by rw [Qk];exact o2) (by simpa [Ym]using hn) (by simp [Ym,YG.cl]);have n2:=o2.none (h:=h) ii;obtain⟨g2,hV⟩:=o2.grw;clear o2;have R1':Zy 1 ad1 n n (ZG E) V2:=by rw [hV];infer_instance
 haveI:Zn V F V2:=by rw [hV];infer_instance
 haveI:Has V2 h:=by rw [hV];infer_instance
 have o3':Yc W.heap.size V2:=by rw [hV];infer_instance
 have o4':Yc (W.heap.size+1) V2:=by rw [hV];infer_instance
 have hB':∃ g,V2=gr W g:=by obtain⟨g,rfl⟩:=hB;exact⟨_,by rw [hV,ZW]⟩
 have d3:∀ j:Nat,V2.cell? ⟨W.heap.size,j,none⟩=V.cs[j]?:=λ j=>by rw [hV];simp [go_sem,c3]
 have d4:∀ j:Nat,V2.cell? ⟨W.heap.size+1,j,none⟩=(#[.int .i64 (grp:Int),.int .i64 (at_:Int)]:Array Value)[j]?:=λ j=>by rw [hV];simp [go_sem,c4]
 clear hV c3 c4 o3 o4 R1 hB;dsimp only;have hmm:∀ W:World,(Instr.makeMap 426 none).run Tryz.prog W=.ok (.map (some W.heap.size)) (W.alloc (.map #[] 0)):=λ W=>by kernel_rfl
 go_wp2_with fail
 go_loopw [43] (λ i wr=>∃ k:Nat,k<=n/\i=.int .i64 k/\Zg (V2.alloc (.map #[] 0)) h (ZE V (N+k) (wrc F ((L.zip E).take k))) wr)
  (λ i _=>n-(intOf i).toNat)
 case atStart=>exact⟨0,Nat.zero_le _,rfl,Zg.same ii (by simpa [wrc]using hp)⟩
 case round =>
  obtain⟨k,hk,rfl,T⟩:=hrel;obtain⟨m,h',hi,x,hp'⟩:=id T;have hsz:(V2.alloc (.map #[] 0)).heap.size=V2.heap.size+1:=by simp
  haveI:Zn V _ wr:=⟨_,⟨h',hp',hi⟩⟩
  have b3:h W.heap.size=none:=hw.none (Nat.le_refl _);have b4:h (W.heap.size+1)=none:=hw.none (by omega);have Q1:Zy 1 ad1 n n (ZG E) wr:=m.rds ii n1;have Q2:Zy 4 ad2 n cap2 (Ym L) wr:=m.rds ii n2;have o3:Yc W.heap.size wr:=m.old ii;have o4:Yc (W.heap.size+1) wr:=m.old ii;have c3:∀ j:Nat,wr.cell? ⟨W.heap.size,j,none⟩=V.cs[j]?:=λ j=>by rw [m.cell j ii b3];simp [go_sem,d3]
  have c4:∀ j:Nat,wr.cell? ⟨W.heap.size+1,j,none⟩=(#[.int .i64 (grp:Int),.int .i64 (at_:Int)]:Array Value)[j]?:=λ j=>by rw [m.cell j ii b4];simp [go_sem,d4]
  by_cases hlt:k<n
  ·obtain⟨c,hc⟩:∃ c,L[k]?=some c:=⟨_,List.getElem?_eq_getElem (by omega)⟩
   obtain⟨s,hs⟩:∃ s,E[k]?=some s:=⟨_,List.getElem?_eq_getElem (by omega)⟩
   obtain⟨d,a,hd,ha,hd',ha'⟩:=hin k c hc;obtain⟨b,o,rfl,hb,c0,c1,c2,c5⟩:=jK Q2 hc;obtain⟨b1,o1,rfl,hb1,hd1⟩:=Q1.cells k [.string s] (by simp [ZG,hs]);have d0:=hd1 0 _ rfl;rw [Nat.mul_one,Nat.add_zero]at d0;have P:=ZkC V (N+k) (wrc F ((L.zip E).take k)) c d a hd ha hd' ha' s (hE s (List.mem_of_getElem? hs)) (by omega);have hws:=Zf9 F L E k c s hc hs;rw [hd,ha,Int.toNat_natCast,Int.toNat_natCast]at hws;simp only [YG.cl]at P;rw [<-hws]at P;clear hc hs hd1 hd ha hws hE hin hEl;go_wp2_with fail;refine plZ (.q [0,1,2,3,4,5] (.x [6] (.q [7] .d))) ?_;simp only [Zk.run,pick,gZ,gS,gA,gN]
   (repeat go_big_quiet_step (exact qZ));refine nZ ?_
   rintro V5 ⟨g5,rfl⟩;go_wp2_with fail;refine(P.run _ (h:=h') hp').mono ?_;rintro e V6 ⟨rfl,T6⟩;replace T6:=Zg.after m x (Zg.after (((Xz.refl h' wr).alloc _).gr _) (λ _ _ e=>e) T6);clear m hi hp' T;dsimp only;go_wp2_with fail;dsimp only [Nx]
   (repeat go_big_quiet_step (exact qZ));refine nZ ?_;rintro _ ⟨g,rfl⟩
   go_wp2_with fail;exact⟨⟨k+1,hlt,by go_num,T6.gr _⟩,by simp [intOf];omega⟩
  ·obtain rfl:n=k:=by omega
   haveI:=Qq V _ wr;have gm':GM V.s wr:=ii;have hga:=gm'.addr grp hg;have hgo:Yc V.s.blk wr:=⟨gm'.old grp hg⟩
   have hg0:=gm'.c0 grp hg;have hg1:=gm'.c1 grp hg;have hwm:wr.heap[V2.heap.size]?=some (.map #[] 0):=by rw [m.block _ (by simp) (hw.none (by obtain⟨g,rfl⟩:=hB';rw [Yl];omega))];exact heap_alloc_new ..
   have hz0:∀(W':World),W'.heap[V2.heap.size]?=wr.heap[V2.heap.size]?->∀ ty,(Builtin.len_ #[426] ty #[.map (some V2.heap.size)]).run Tryz.prog W'=.ok (.int .i64 0) W':=λ W' e ty=>Zh0 (e.trans hwm) ty
   have hz1:=hz0 wr rfl;have hz2:=hz0 (wr.alloc (.cells #[.int .i64 (V.s.x grp),.int .i64 (V.s.y grp)] 67)) (Below.heap_alloc _ _ _ (by have:=(Array.getElem?_eq_some_iff.1 hwm).1;omega));have c30:wr.cell? ⟨W.heap.size,0,none⟩=some (.slice (some ⟨V.s.blk,V.s.off,none⟩) V.s.len V.s.cap):=by rw [c3,<- hga];rfl
   clear c3
   have END:∀ o:Obj,Zg W h (ZE V (N+32) (wrc F (L.zip E))) (wr.alloc o):=λ o=>by
    obtain⟨g,rfl⟩:=hB';refine Zg.after (((Xz.refl h W).gr g).alloc _) (λ _ _ e=>e) ((Zg.of_alloc T o).mono λ h1 p=>?_);have e:(L.zip E).take n=L.zip E:=List.take_of_length_le (by simp;omega);rw [e]at p;exact p.more (by omega) hN
   obtain⟨w1,w2,w3⟩:=hW;rcases w3 with w3|⟨w3,w4⟩
   ·rw [w3]at hg0 hz2;go_wp2_with fail;go_ret2;exact⟨_,rfl,(END _).mono λ h' p=>⟨rfl,p⟩⟩
   ·rw [w3]at hg0 hz2;go_wp2_with fail;go_ret2;exact⟨_,rfl,(END _).mono λ h' p=>⟨rfl,p⟩⟩
theorem ZhN{α:Type}{l:List α}{i:Nat}{x:α}(e:l[i]?=some x):l.set i x=l:=by
 obtain⟨h,rfl⟩:=List.getElem?_eq_some_iff.1 e;exact List.set_getElem_self h
section
variable(V:VD)(F:Nat->Nat->ByteArray)(W:World)[D:Zn V F W]
include D in
theorem ZiI(grp at_ z:Nat)(t:ByteArray)(ht:t.size=64*z)(hm:XG V.s V.secs grp at_ z=true) :
  Fn 335 #[V.v,.agg #[.int .i64 grp,.int .i64 at_],.string t,.slice none 0 0] W (.int .i64 0):=by
 refine⟨?_⟩;obtain⟨ok,gm,ol,oa,_⟩:=Zo V F W;haveI:Ky V.s V.secs:=⟨ok.g⟩
 obtain⟨⟨g0,g1⟩,⟨z0,z1⟩,a0,a1⟩:=Xg hm;have hz:1<=z/\z<=4:=by omega
 have hg:grp<V.s.len:=by omega
 obtain⟨l1,l2⟩:=JX ok.g hg (at_:=at_) hz;have hrow:Ku (Zz V.s grp at_ z):=qo ok.g hg _ _;have HR:∀ W':World,[Zn V F W']->Fn 69 #[V.v] W' (.bool true):=λ W' _=>YZ V F W'
 have EA:∀ w,GM V.s w->_:=λ w (_:GM V.s w)=>jl V.s V.secs grp at_ w t z ht hz hm l2 (by omega) hrow
 have OA:∀ w,GM V.s w->_:=λ w (_:GM V.s w)=>kR V.s V.secs grp at_ z w
 have hm':=Lib.hid hm;generalize XT (Zz V.s grp at_ z) (Z6 t z)=E at *
 generalize Zz V.s grp at_ z=L at *
 clear hm;have hq:((t.size:Int)/64)=z:=by omega
 go_in
 go_wp2_with(with_reducible refine Fn.go λ g=>?_);refine(EA _ (by have:=λ w (_:Zn V F w)=>Qq V F w;exact this _ ii)).mono ?_;rintro e V1 ⟨ad1,rfl,o1⟩;obtain⟨g1,rfl⟩:=o1.grw;clear o1;dsimp only;go_wp2_with fail;refine(OA _ (by have:=λ w (_:Zn V F w)=>Qq V F w;exact this _ ii)).mono ?_;rintro e V2 ⟨hy,hno⟩;obtain⟨ad2,cap2,rfl,o2⟩:=hy hm'.out;obtain⟨g2,rfl⟩:=o2.grw;clear hy hno o2;dsimp only;go_wp2_with fail
 go_loopw [13,41] (λ v i wr=>v=.int .i64 0/\i=.int .i64 0/\∃ g,wr=gr W g) (λ _ _ _=>0)
 case atStart=>exact⟨rfl,rfl,Zf grown⟩
 case round =>
  obtain⟨rfl,rfl,g,rfl⟩:=hrel;go_wp2_with fail;go_ret;exact ZM.mk rfl grown
end
theorem Ze6(V:VD)(N:Nat)(F:Nat->Nat->ByteArray):Tu 67 #[V.v] (ZE V N F) λ v h=>v=.tuple #[.int .i64 0,.int .i64 0]/\ZE V N F h:=by
 intro W h hw hp;haveI:Zn V F W:=⟨N,⟨h,hp,hw⟩⟩
 obtain⟨ok,gm,ol,oa,hd⟩:=Zo V F W;have HR:∀ W':World,[Zn V F W']->Fn 69 #[V.v] W' (.bool true):=λ W' _=>YZ V F W'
 go_in
 go_wp2_with(with_reducible refine Fn.go λ g=>?_)
 go_loopw [4,12] (λ v i wr=>∃ k:Nat,k<=V.ds.length/\v=.int .i64 0/\i=.int .i64 k/\Zg (W.alloc (.cells V.cs 31)) h (ZE V N F) wr)
  (λ _ i _=>V.ds.length-(intOf i).toNat)
 case atStart=>exact⟨0,Nat.zero_le _,rfl,rfl,Zg.below ii hp grown⟩
 case round =>
  obtain⟨k,hk,rfl,rfl,T⟩:=hrel;obtain⟨m,h',hi,x,hp'⟩:=id T;haveI:Zn V F wr:=⟨_,⟨h',hp',hi⟩⟩
  obtain⟨_,_,ol,oa,hd⟩:=Zo V F wr;have b3:h W.heap.size=none:=hw.none (Nat.le_refl _);have o3:Yc W.heap.size wr:=m.old ii;have c3:∀ j:Nat,wr.cell? ⟨W.heap.size,j,none⟩=V.cs[j]?:=λ j=>by rw [m.cell j ii b3];simp [go_sem]
  by_cases hlt:k<V.ds.length
  ·obtain⟨dd,hdd⟩:∃ dd,V.ds[k]?=some dd:=⟨_,List.getElem?_eq_getElem hlt⟩
   obtain⟨id1,c1,c2⟩:=hd k dd hdd;have HH:∀(W':World),[Zn V F W']->Fn 110 #[V.v,.int .i64 k] W' (.bool true):=λ W' _=>qC V F W' k hlt
   have P:=(Zfm dd V.secs N (F k)).atv (Qa (N:=N) (F:=F) hdd [X9 V.s,Jd V.lb (zb V.ds),Jd V.ab (List.replicate V.ds.length (.bool false))]);clear hd;go_wp2_with(with_reducible refine Fn.go λ g=>?_);obtain⟨ok',st⟩:=hp';refine(P.run _ (h:=h') st).mono ?_;rintro e V6 ⟨rfl,T6⟩;rw [ZhN (Qa hdd _)]at T6;replace T6:=Zg.after m x (Zg.after ((Xz.refl h' wr).gr _) (λ _ _ e=>e) T6);clear m hi T;have hle:=ok.le;dsimp only;go_wp2_with fail;exact⟨⟨k+1,hlt,rfl,by go_num,T6.mono λ h1 p=>⟨ok,p⟩⟩,by simp [intOf];omega⟩
  ·obtain rfl:V.ds.length=k:=by omega
   have hz:(V.ds.length:Int)≠0:=by
    have h1:=Jr ok.g V.s.len 0 (by have:=ok.g.1;omega) (Nat.le_refl _);have h2:=Yk ok.g (k:=0) (by have:=ok.g.1;omega);have h3:=ok.n;simp only [YB]at h1;omega
   clear hd;go_wp2_with fail;go_ret2;exact⟨_,rfl,(Zg.after ((Xz.refl h W).alloc _) (λ _ _ e=>e) T).mono λ h1 p=>⟨rfl,p⟩⟩
end Go.Proofs.YtlfjdjndhcmliaaGreatDoor
namespace Go.Proofs.YtlfjdjndhcmliaaGreatDoor
open Go.RowKit Go.Sort
def Zw(t:TypeId)(z:Nat)(ad:Option Addr)(n cap:Nat)(L:List (List Value)):SP:=λ h=>L.length=n/\(∀ x∈L,x.length=z)/\((ad=none/\n=0/\cap=0)\/∃ g,ad=some ⟨g,0,none⟩/\cap<=maxLen/\YC t z g cap L h)
theorem Zw.nil(t:TypeId)(z:Nat)(h:Hl):Zw t z none 0 0 [] h:=⟨rfl,by simp,.inl ⟨rfl,rfl,rfl⟩⟩
theorem Zw.own{t:TypeId}{z:Nat}{ad:Option Addr}{n cap:Nat}{L:List (List Value)}{h:Hl}(p:Zw t z ad n cap L h)(W:World)[hw:Has W h]:W.ownsRow 0 t z (.slice ad n cap) n L.flatten:=by
 obtain⟨p1,p2,p3⟩:=p;refine⟨by rw [Yy p2,p1],?_⟩;rcases p3 with ⟨rfl,rfl,rfl⟩|⟨g,rfl,h2,cur,r1,r2,r3,r4,r5⟩
 ·exact .inl ⟨rfl,rfl⟩
 ·exact .inr ⟨g,cap,cur,rfl,Nat.zero_le _,hw.get _ _ r1,by omega,h2,r2,by rw [<-r3,p1]⟩
theorem Zw.rd{t:TypeId}{z:Nat}{ad:Option Addr}{n cap:Nat}{L:List (List Value)}{h:Hl}(p:Zw t z ad n cap L h)(W:World)[Has W h]:Zy z ad n cap L W:=by
 obtain⟨p1,p2,p3⟩:=p;rcases p3 with ⟨rfl,rfl,rfl⟩|⟨g,rfl,h2,r⟩
 ·obtain rfl:L=[]:=List.length_eq_zero_iff.1 p1;exact⟨rfl,λ k x hx=>by simp at hx⟩
 ·exact r.rd p1 W
theorem Zw.cap{t:TypeId}{z:Nat}{ad:Option Addr}{n cap:Nat}{L:List (List Value)}{h:Hl}(p:Zw t z ad n cap L h):n<=cap:=by
 obtain⟨p1,p2,p3⟩:=p;rcases p3 with ⟨rfl,rfl,rfl⟩|⟨g,rfl,h2,cur,r1,r2,r3,r4,r5⟩<;>omega
theorem ZC.slP{e:TypeId}{z:Nat}{ad:Option Addr}{n cap:Nat}{L:List (List Value)}{W W1:World}(o:ZC e z ad n cap L.flatten W W1)(hl:L.length=n)(hz:∀ x∈L,x.length=z):∃ hp:Hl,Has W hp/\Zw e z ad n cap L hp/\Qf W1.heap.size hp:=by
 rcases o.own.2 with ⟨h1,h0⟩|⟨g,cap',cur,e1,hb,hg,hle,hmx,hs,ht⟩
 ·injection h1 with h1 _ h2;exact⟨λ _=>Option.none,⟨λ k o e=>by cases e⟩,⟨hl,hz,.inl ⟨h1,h0,h2⟩⟩,⟨λ _ _=>rfl⟩⟩
 ·injection e1 with e1 e2 e3;subst e1 e3;obtain⟨hp,a,b,c⟩:=Qy o hl hz;exact⟨hp,a,⟨hl,hz,.inr ⟨g,rfl,hmx,b⟩⟩,c⟩
theorem Zbk{ts e:TypeId}{z by_:Nat}[k:Jl ts e z by_]{h:Hl}{ad:Option Addr}{n cap b:Nat}{L:List (List Value)}{l:List Value}(p:Zw e z ad n cap L h)(W:World)[hw:Has W h](hc:XP b l W)(hl:l.length=z)(h1:Ur l)(hn:n<=1000000000000)(hb:by_<=136) :
  ∃ g' cap' W',(∀ ty,(Builtin.append_ #[ts,ts] ty #[.slice ad n cap,.slice (some ⟨b,0,none⟩) 1 1]).run Tryz.prog W=.ok (.slice (some ⟨g',0,none⟩) (n+1) cap') W')/\Zg W h (Zw e z (some ⟨g',0,none⟩) (n+1) cap' (L++[l])) W':=by
 obtain⟨i,zr,hi,hz0,hz1,hz2,hz3⟩:=Jl.el (ts:=ts) (e:=e) (z:=z) (by_:=by_);have ksl:=Jl.sl (ts:=ts) (e:=e) (z:=z) (by_:=by_);have kpos:=Jl.pos (ts:=ts) (e:=e) (z:=z) (by_:=by_);have hown:=p.own W;obtain⟨p1,p2,p3⟩:=p
 obtain⟨v',W',hrun,hown',hgr,hnil,hloc⟩:=run_append_own_at (P:=Tryz.prog) W 0 ts ts e i zr z by_ ksl hi hz0 hz1 hz2 hz3 kpos _ n _ hown ⟨b,0,none⟩ 1 1 l (by omega)
  (λ j u hj=>by rw [zj];simpa using hc.cell j u hj) h1.h (by unfold maxLen;omega) (by have:=Nat.mul_le_mul (show n+1<=1000000000001 by omega) hb;omega) (Nat.zero_le _)
 rcases hown'.2 with ⟨_,h0⟩|⟨b',c',cur',rfl,_,hb',hle',hmx',hs',ht'⟩
 ·omega
 have hloc:b'=W.heap.size\/∃ g,ad=some ⟨g,0,none⟩/\b'=g/\h g≠none:=by
  rcases hloc with e1|e1
  ·right;rcases p3 with ⟨rfl,rfl,rfl⟩|⟨g,rfl,h2,cur,r1,_⟩
   ·cases e1
   ·exact⟨g,rfl,(by simpa [Value.ownBlock]using e1),by rw [r1];simp⟩
  ·left;injection e1
 refine⟨b',c',W',λ ty=>hrun,⟨hgr.os,hgr.tape,hgr.output,hgr.size,λ m hm e1=>hgr.block m hm λ e2=>?_⟩,λ m=>if m=b' then some (.cells cur' e)else none,⟨λ m o e1=>?_⟩,λ m hm e1=>?_,by simp [p1],?_,.inr ⟨b',rfl,hmx',cur',if_pos rfl,hs',?_,?_,?_⟩⟩
 ·rcases p3 with ⟨rfl,rfl,rfl⟩|⟨g,rfl,h2,cur,r1,_⟩
  ·cases e2
  ·injection e2 with e2;rw [e2,r1]at e1;cases e1
 ·by_cases hm:m=b'
  ·subst hm;rw [if_pos rfl]at e1;cases e1;exact hb'
  ·rw [if_neg hm]at e1;cases e1
 ·refine if_neg ?_;rintro rfl;rcases hloc with h2|⟨g,_,rfl,h2⟩
  ·omega
  ·exact h2 e1
 ·intro x hx;rcases List.mem_append.1 hx with hx|hx
  ·exact p2 x hx
  ·rw [List.mem_singleton]at hx;rw [hx];exact hl
 ·rw [show (L++[l]).length=n+1 by simp [p1],ht'];simp
 ·intro x hx;rcases List.mem_append.1 hx with hx|hx
  ·exact p2 x hx
  ·rw [List.mem_singleton]at hx;rw [hx];exact hl
 ·simp [p1];omega
def Zd(b:Nat)(cs:Array Value)(t:TypeId):SP:=λ h=>h b=some (.cells cs t)
def Emp:SP:=λ _=>True
def one(b:Nat)(o:Obj):Hl:=λ m=>if m=b then some o else none
theorem QF(b:Nat)(o:Obj):one b o b=some o:=if_pos rfl
def Hl.or(h h':Hl):Hl:=λ m=>match h m with
 |some o=>some o
 |none=>h' m
theorem Hl.or_left{h h':Hl}{m:Nat}{o:Obj}(e:h m=some o):h.or h' m=some o:=by simp [Hl.or,e]
theorem Hl.or_right{h h':Hl}{m:Nat}(e:h m=none):h.or h' m=h' m:=by simp [Hl.or,e]
theorem star.cons{l:List SP}{h h':Hl}{p:SP}(s:star l h)(q:p h')(a:J3 h h'):star (p::l) (h.or h') :=
 ⟨h',h,q,s,(λ n o e=>by
  rcases a n with h1|h1
  ·rw [Hl.or_right h1];exact e
  ·rw [h1]at e;cases e),(λ n o e=>Hl.or_left e),a.symm⟩
theorem Has.or{W:World}{h h':Hl}(i:Has W h)(j:Has W h'):Has W (h.or h'):=⟨λ n o e=>by
 unfold Hl.or at e;split at e
 ·rename_i h1;cases e;exact i.get n _ h1
 ·exact j.get n o e⟩
theorem ko{h h':Hl}{N:Nat}(a:∀ n,N<=n->h n=none)(b:Qf N h'):J3 h h':=λ n=>by
 rcases Nat.lt_or_ge n N with h1|h1
 ·exact .inr (b.out n h1)
 ·exact .inl (a n h1)
structure ZL(W1:World)(l:List SP)(w:World):Prop where
 g:∃ g,w=gr W1 g
 ex:∃ h,star l h/\Has w h/\Qf W1.heap.size h
theorem ZL.nil(W:World):ZL W [] W:=⟨Y1 W,λ _=>none,trivial,⟨λ n o e=>by cases e⟩,⟨λ _ _=>rfl⟩⟩
theorem ZL.gr{W1 w:World}{l:List SP}(b:ZL W1 l w)(g:Gr):ZL W1 l (gr w g):=by
 obtain⟨⟨g1,e⟩,h,a,i,o⟩:=b;exact⟨⟨_,by rw [e,ZW]⟩,h,a,ii,o⟩
theorem ZL.size{W1 w:World}{l:List SP}(b:ZL W1 l w):W1.heap.size<=w.heap.size:=by
 obtain⟨g,rfl⟩:=b.g;rw [Yl];omega
theorem ZL.alloc{W1 w:World}{l:List SP}(b:ZL W1 l w)(o:Obj):ZL W1 l (w.alloc o):=by
 obtain⟨⟨g1,e⟩,h,a,i,q⟩:=b;exact⟨⟨_,by rw [e,ZK]⟩,h,a,ii,q⟩
theorem ZL.push{W1 w:World}{l:List SP}(b:ZL W1 l w){p:SP}(o:Obj)(hp:p (one w.heap.size o)):ZL W1 (p::l) (w.alloc o):=by
 have hs:=b.size;obtain⟨⟨g1,e⟩,h,a,i,q⟩:=b;have ou:Qf w.heap.size (one w.heap.size o):=⟨λ k hk=>if_neg (by omega)⟩
 have j:Has (w.alloc o) (one w.heap.size o):=⟨λ n o' e=>by
  unfold one at e;split at e
  ·rename_i h1;subst h1;cases e;exact heap_alloc_new ..
  ·cases e⟩
 refine⟨⟨_,by rw [e,ZK]⟩,_,a.cons hp (ko (λ n hn=>i.none hn) ou),Has.or ii j,⟨λ k hk=>?_⟩⟩;rw [Hl.or_right (q.out k hk)];exact if_neg (by omega)
theorem ZL.join{W1 w w':World}{l:List SP}{p:SP}(b:ZL W1 l w)(hg:∃ g,w'=Go.Proofs.YtlfjdjndhcmliaaGreatDoor.gr w g)(c:∃ h,p h/\Has w' h/\Qf w.heap.size h):ZL W1 (p::l) w':=by
 have hs:=b.size;obtain⟨⟨g1,e⟩,h,a,i,q⟩:=b;obtain⟨g,rfl⟩:=hg;obtain⟨h',hp,j,o⟩:=c;refine⟨⟨_,by rw [e,ZW]⟩,_,a.cons hp (ko (λ n hn=>i.none hn) o),Has.or ii j,⟨λ k hk=>?_⟩⟩;rw [Hl.or_right (q.out k hk)];exact o.out k (Nat.lt_of_lt_of_le hk hs)
theorem ZL.turns{W1 w:World}{l:List SP}(b:ZL W1 l w){h0:Hl}(i0:Has W1 h0):Zg W1 h0 (star l) w:=by
 obtain⟨⟨g1,rfl⟩,h,a,i,q⟩:=b;exact⟨Xz.gr (Xz.refl _ _) g1,h,i,λ n hn _=>q.out n hn,a⟩
theorem star.perm:∀ {l l':List SP},l.Perm l'->∀ {h:Hl},star l h->star l' h:=λ p=>by
 induction p with
 |nil=>exact λ s=>s
 |cons x _ ih=>exact λ⟨h1,h2,a,b,c,d,e⟩=>⟨h1,h2,a,ih b,c,d,e⟩
 |swap x y l =>
  intro h ⟨h1,h2,a,⟨h3,h4,a2,b2,c2,d2,e2⟩,c,d,e⟩;refine⟨h3,h1.or h4,a2,?_,c2.trans d,λ n o q=>?_,λ n=>?_⟩
  ·refine⟨h1,h4,a,b2,λ n o q=>Hl.or_left q,λ n o q=>?_,λ n=>?_⟩
   ·rcases e n with e1|e1
    ·rw [Hl.or_right e1];exact q
    ·rw [d2 n o q]at e1;cases e1
   ·rcases e n with e1|e1
    ·exact .inl e1
    ·exact .inr (d2.none e1)
  ·unfold Hl.or at q;split at q
   ·rename_i h5;cases q;exact c n _ h5
   ·exact d n o (d2 n o q)
  ·rcases e2 n with e1|e1
   ·exact .inl e1
   ·rcases e n with e3|e3
    ·exact .inr (by rw [Hl.or_right e3];exact e1)
    ·exact .inl (c2.none e3)
 |trans _ _ ih1 ih2=>exact λ s=>ih2 (ih1 s)
theorem ZL.perm{W1 w:World}{l l':List SP}(b:ZL W1 l w)(p:l.Perm l'):ZL W1 l' w:=by
 obtain⟨g,h,a,i,q⟩:=b;exact⟨g,h,a.perm p,i,q⟩
theorem Zd.set{b:Nat}{cs:Array Value}{t:TypeId}{h:Hl}(p:Zd b cs t h)(k:Nat)(v:Value)(w:World)[i:Has w h]:Zg w h (Zd b (cs.setIfInBounds k v) t) (w.setCell ⟨b,k,none⟩ v):=by
 obtain⟨c,e,i2,x⟩:=Zly w h b k v cs t p;exact⟨(Xz.refl h w).setCell (.inr (by rw [show h b=_ from p];simp)) v,_,by rw [e];infer_instance,λ n hn e2=>x.out n hn e2,Hl.put_same ..⟩
theorem ZL.turn{W1 w w':World}{l:List SP}{i:Nat}{p q:SP}(b:ZL W1 l w)(e:l[i]?=some p)(k:∀ h,p h->Has w h->Zg w h q w'):ZL W1 (l.set i q) w':=by
 have hs:=b.size;obtain⟨⟨g1,rfl⟩,h,a,j,o⟩:=b;obtain⟨m,h',i',x,p'⟩:=Zg.focus j a e k;refine⟨Zf ⟨m.os,m.tape,m.output,Nat.le_trans hs m.size,λ n hn=>?_⟩,h',p',i',⟨λ n hn=>x n (Nat.lt_of_lt_of_le hn hs) (o.out n hn)⟩⟩;rw [m.block n (Nat.lt_of_lt_of_le hn hs) (o.out n hn),XQ _ _ hn]
theorem ZL.set{W1 w:World}{l:List SP}{i b:Nat}{cs:Array Value}{t:TypeId}(B:ZL W1 l w)(e:l[i]?=some (Zd b cs t))(k:Nat)(v:Value):ZL W1 (l.set i (Zd b (cs.setIfInBounds k v) t)) (w.setCell ⟨b,k,none⟩ v) :=
 B.turn e λ h p i=>p.set k v w
theorem star.cells{w:World}{l:List SP}{h:Hl}(s:star l h)[i:Has w h]{j b:Nat}{cs:Array Value}{t:TypeId}(e:l[j]?=some (Zd b cs t)):Zh w b cs:=by
 obtain⟨h0,p,s0⟩:=s.get e;exact⟨t,i.get _ _ (s0 _ _ p)⟩
theorem ZL.cells{W1 w:World}{l:List SP}(B:ZL W1 l w){j b:Nat}{cs:Array Value}{t:TypeId}(e:l[j]?=some (Zd b cs t)):Zh w b cs:=by
 obtain⟨_,h,a,i,_⟩:=B;exact a.cells e
theorem ZL.cls{W1 w w':World}{l:List SP}(B:ZL W1 l w)(c:YL w w'):ZL W1 l w':=by
 obtain⟨g,rfl⟩:=c;exact B.gr g
theorem star.snoc:∀ {l:List SP} {h:Hl} {p:SP},star l h->p (λ _=>none)->star (l++[p]) h
 | [],_,_,_,hp=>⟨λ _=>none,λ _=>none,hp,trivial,(λ n o e=>by cases e),(λ n o e=>by cases e),λ n=>Or.inl rfl⟩
 |q::l,h,p,⟨h1,h2,a,b,c,d,e⟩,hp=>⟨h1,h2,a,star.snoc b hp,c,d,e⟩
theorem ZL.more{W1 w:World}{l:List SP}{p:SP}(B:ZL W1 l w)(hp:p λ _=>none):ZL W1 (l++[p]) w:=by
 obtain⟨g,h,a,i,o⟩:=B;exact⟨g,h,a.snoc hp,i,o⟩
theorem Zg.new{w w':World}{h:Hl}{P:SP}(e:∀ n,h n=none)(t:Zg w h P w'):(∃ g,w'=Go.Proofs.YtlfjdjndhcmliaaGreatDoor.gr w g)/\∃ h',P h'/\Has w' h'/\Qf w.heap.size h':=by
 obtain⟨m,h1,i,x,p⟩:=t;exact⟨Zf ⟨m.os,m.tape,m.output,m.size,λ k hk=>m.block k hk (e k)⟩,h1,p,i,⟨λ k hk=>x k hk (e k)⟩⟩
theorem ZL.turned{W1 w':World}{g:Gr}{l:List SP}{h:Hl}(o:Qf W1.heap.size h)(t:Zg (Go.Proofs.YtlfjdjndhcmliaaGreatDoor.gr W1 g) h (star l) w'):ZL W1 l w':=by
 have hs:W1.heap.size<=(Go.Proofs.YtlfjdjndhcmliaaGreatDoor.gr W1 g).heap.size:=by rw [Yl];omega
 obtain⟨m,h',i',x,p'⟩:=t;refine⟨Zf ⟨m.os,m.tape,m.output,Nat.le_trans hs m.size,λ n hn=>?_⟩,h',p',i',⟨λ n hn=>x n (Nat.lt_of_lt_of_le hn hs) (o.out n hn)⟩⟩;rw [m.block n (Nat.lt_of_lt_of_le hn hs) (o.out n hn),XQ _ _ hn]
theorem ZL.call{W1 w:World}{l:List SP}(B:ZL W1 l w){f:FuncId}{args:Array Value}{p:SP}{q:Value->SP}{i:Nat}(t:Tu f args p q)(e:l[i]?=some p):Calls Tryz.prog f args w λ e w'=>∃ v,e=.returned v/\ZL W1 (l.set i (q v)) w':=by
 have hs:=B.size;obtain⟨⟨g1,rfl⟩,h,a,j,o⟩:=B;refine(t.at_ e _ h j a).mono λ e w' ⟨v,e1,m,h',i',x,p'⟩=>⟨v,e1,Zf ⟨m.os,m.tape,m.output,Nat.le_trans hs m.size,λ n hn=>?_⟩,h',p',i',⟨λ n hn=>x n (Nat.lt_of_lt_of_le hn hs) (o.out n hn)⟩⟩
 rw [m.block n (Nat.lt_of_lt_of_le hn hs) (o.out n hn),XQ _ _ hn]
theorem ZL.calln{W1 w:World}{l:List SP}(B:ZL W1 l w){f:FuncId}{args:Array Value}{q:Value->SP}(t:Tu f args (λ _=>True) q):Calls Tryz.prog f args w λ e w'=>∃ v,e=.returned v/\ZL W1 (q v::l) w' :=
 (t w (λ _=>none) ⟨λ n o e=>by cases e⟩ trivial).mono λ e w' ⟨v,e1,T⟩=>⟨v,e1,B.join (Zg.new (λ _=>rfl) T).1 (Zg.new (λ _=>rfl) T).2⟩
theorem ZL.exs{W1 w:World}{l:List SP}{r:Nat->Prop}{P:Nat->SP}(B:ZL W1 ((λ h=>∃ d,r d/\P d h)::l) w):∃ d,r d/\ZL W1 (P d::l) w:=by
 obtain⟨g,h,⟨h1,h2,⟨d,a,b⟩,c⟩,i,o⟩:=B;exact⟨d,a,g,h,⟨h1,h2,b,c⟩,i,o⟩
theorem ZL.drop{W1 w:World}{l:List SP}{p:SP}(B:ZL W1 (p::l) w):ZL W1 l w:=by
 obtain⟨g,h,⟨h1,h2,a,b,c,d,e⟩,i,o⟩:=B;exact⟨g,h,b.sub d,i,o⟩
theorem Zfc{w:World}{b z:Nat}{cs:Array Value}(hz:cs.size=z)[k:Zh w b cs]:ZJ b 0 cs z w:=⟨hz,k.old,λ j v e=>by
 rw [Nat.zero_add,YO,<- Array.getElem?_toList];exact e⟩
theorem Zbz{fn:Func}{p u:Tmp}{ty:TypeId}{z:Nat}(h:fn.results=#[.cell p ty,.tmp u])(tmps:Array Value)(w:World)(b:Nat)(cs:Array Value){d:_}(hp:tmps.getD p undef=.pointer (some ⟨b,0,none⟩))(hs:ZJ b 0 cs z w)
  (hu:Tryz.prog.underlying ty=some (.struct d)) (hi:(Tryz.prog.info? ty).map (·.size)=some z):(results fn tmps).run Tryz.prog w=.ok (.tuple #[.agg cs,tmps.getD u undef]) w:=by
 rw [results_cell_tmp h,hp];simp only [asAddr,Sem.run_pure,Result.andThen_ok];rw [Ys (P:=Tryz.prog) w b 0 z cs ty _ hu rfl hi];rfl
section
variable{ops:Array Oper}{rest:List Oper}{Q:Exit->Act->World->Prop}{a:Act}{w:World}{d:Option Tmp}{pos:String}{aft:Array Edge}
theorem Zbb{ts e:TypeId}{z by_:Nat}[k:Jl ts e z by_]{x y:Operand}{W1:World}{l:List SP}{i:Nat}{ad:Option Addr}{n cap b:Nat}{L:List (List Value)}{v:List Value}(B:ZL W1 l w)(he:l[i]?=some (Zw e z ad n cap L))(hx:a.eval x=.slice ad n cap)(hy:a.eval y=.slice (some ⟨b,0,none⟩) 1 1)
  (hc:XP b v w) (h1:Ur v) (hl:v.length=z) (hb:by_<=136) (hn:n<=1000000000000)
  (h:∀ g' cap' w',ZL W1 (l.set i (Zw e z (some ⟨g',0,none⟩) (n+1) cap' (L++[v]))) w'->wpList Tryz.prog ops Q rest (a.put d (.slice (some ⟨g',0,none⟩) (n+1) cap')) w') :
  wpList Tryz.prog ops Q ({ dst:=d,op:=.call { callee:=.builtin .append,args:=#[x,y],argTypes:=#[ts,ts] },type:=ts,pos:=pos,after:=aft,guard:=none }::rest) a w:=by
 have hs:=B.size;obtain⟨⟨g1,rfl⟩,hp,st,j,o⟩:=B;obtain⟨h0,p0,s0,cc⟩:=st.focus he;haveI:=j.sub s0;obtain⟨g',cap',W',hr,T⟩:=Zbk (ts:=ts) p0 (Go.Proofs.YtlfjdjndhcmliaaGreatDoor.gr W1 g1) hc hl h1 hn hb;refine ZP rfl _ _ _ _ rfl _ _ hx hy (hr _) (h g' cap' W' ?_);exact ZL.turned o ((T.frame j s0).mono λ h' ⟨h1,q1,q2,q3⟩=>cc _ h1 h' q1 q2 q3)
end
end Go.Proofs.YtlfjdjndhcmliaaGreatDoor
namespace Go.Proofs.YtlfjdjndhcmliaaGreatDoor
open Go.RowKit Go.Sort
open Go.Maps Go.ChangeMaps
def JM(s:ZO):List (List Value):=(List.range s.len).map λ k=>[.int .i64 (s.x k),.int .i64 (s.y k)]
theorem GM.rd{s:ZO}{W:World}(m:GM s W):Zy 2 s.ad s.len s.cap (JM s) W:=⟨by simp [JM],λ k x hx=>by
 have hk:k<s.len:=by have:=(List.getElem?_eq_some_iff.1 hx).1;simpa [JM]using this
 simp only [JM,List.getElem?_map,List.getElem?_range hk,Option.map_some,Option.some.injEq]at hx;subst hx;refine⟨s.blk,s.off,m.addr k hk,⟨m.old k hk⟩,λ j v hj=>?_⟩
 match j,hj with
 |0,hj=>cases hj;exact m.c0 k hk
 |1,hj=>cases hj;exact m.c1 k hk
 |j+2,hj=>simp at hj⟩
def ZO.at_(s:ZO)(g cap:Nat):ZO:=⟨some ⟨g,0,none⟩,g,0,s.len,cap,s.x,s.y⟩
theorem Zf4{s:ZO}{g cap:Nat}{h:Hl}(r:YC 67 2 g cap (JM s) h):X9 (s.at_ g cap) h:=by
 obtain⟨cur,r1,r2,r3,r4,r5⟩:=r;refine⟨rfl,cur,_,r1,λ k hk=>?_⟩;have hk:k<s.len:=hk;have hl:(JM s).length=s.len:=by simp [JM]
 have e:∀ j:Nat,j<2->cur[k*2+j]?=([Value.int .i64 (s.x k),.int .i64 (s.y k)])[j]?:=λ j hj=>by
  have h2:=QM (JM s) 2 k j [.int .i64 (s.x k),.int .i64 (s.y k)] r4 (by simp [JM,hk]) hj;rw [<-r3,hl,List.getElem?_take_of_lt (by omega),Array.getElem?_toList]at h2;exact h2
 exact⟨by have:=e 0 (by omega);simpa [ZO.at_]using this,by have:=e 1 (by omega);simpa [ZO.at_]using this⟩
instance Zrs:ElZ 29 4 (.bool false):=VK Tryz.underlying29 (b:=1) (by kernel_rfl) (by omega) rfl
instance ZqT:Jl 28 60 1 8:=Qj Tryz.underlying28 (by kernel_rfl) (by omega)
theorem ZL.set4{W w:World}{l:List SP}{x:Nat}{z0 z1 z2 z3 a b c d:Value}{t:TypeId}(B:ZL W (Zd x #[z0,z1,z2,z3] t::l) w):ZL W (Zd x #[a,b,c,d] t::l) ((((w.setCell ⟨x,0,none⟩ a).setCell ⟨x,1,none⟩ b).setCell ⟨x,2,none⟩ c).setCell ⟨x,3,none⟩ d) :=
 (((B.set (i:=0) rfl 0 a).set (i:=0) rfl 1 b).set (i:=0) rfl 2 c).set (i:=0) rfl 3 d
theorem qR{W w w1:World}{l:List SP}{e:TypeId}{ab n cap:Nat}{xs:List Value}(B:ZL W l w1)(o:ZC e 1 (some ⟨ab,0,none⟩) n cap xs w w1):ZL W (Jd ab xs::l) w:=B.join o.grw (by
 have o2:ZC e 1 (some ⟨ab,0,none⟩) n cap (xs.map λ v=>[v]).flatten w w1:=by
  have:(xs.map λ v=>[v]).flatten=xs:=by clear o;induction xs<;>simp_all
  rw [this];exact o
 obtain⟨hp,a,⟨cur,r1,r2,r3,r4,r5⟩,q⟩:=Qy o2 (by have:=o.own.1;simp at this ⊢;exact this) (by simp);refine⟨hp,⟨cur,e,r1,λ k v hk=>?_⟩,a,q⟩
 have hf:(xs.map λ v=>[v]).flatten=xs:=by
  clear o o2 r3 r4 r5 hk
  induction xs<;>simp_all
 rw [hf]at r3;have hl:=(List.getElem?_eq_some_iff.1 hk).1;rw [<-r3,List.getElem?_take_of_lt (by simpa using hl),Array.getElem?_toList]at hk
 exact hk)
theorem ZdA(s:ZO)(g c:Nat):∀ k,YB (s.at_ g c) k=YB s k
 |0=>rfl
 |k+1=>by simp only [YB,ZdA s g c k];rfl
theorem Zj1{t:TypeId}{lb n cap:Nat}{ds:List Nat}{h:Hl}(p:Zw t 1 (some ⟨lb,0,none⟩) n cap (ds.map λ d=>[.pointer (some ⟨d,0,none⟩)]) h):Jd lb (zb ds) h:=by
 rcases p.2.2 with ⟨h0,_⟩|⟨g,e,_,cur,r1,r2,r3,r4,r5⟩
 ·cases h0
 ·cases e;refine⟨cur,t,r1,λ k v hk=>?_⟩
  have hf:(ds.map λ d=>[Value.pointer (some ⟨d,0,none⟩)]).flatten=zb ds:=by
   clear r3 r4 r5 hk p
   induction ds<;>simp_all [zb]
  rw [hf]at r3;have hl:=(List.getElem?_eq_some_iff.1 hk).1;rw [<-r3,List.getElem?_take_of_lt (by simpa [zb]using hl),Array.getElem?_toList]at hk;exact hk
theorem Zi5(s:ZO)(secs:Nat)[gk:Ky s secs](b:UInt8)(W:World)[gm:GM s W](hb:(s.blk<W.heap.size)) :
  Calls Tryz.prog 43 #[.agg #[.slice s.ad s.len s.cap,.int .i64 secs],.int .u8 b.toNat] W λ e w' =>
   ∃(V:VD),e=.returned (.tuple #[V.v,.int .i64 0])/\V.secs=secs/\((∃ g cap,V.s=s.at_ g cap)/\V.rg=(λ _ _=>Z1 b)/\V.ro=false)/\Zg W (λ _=>none) (ZE V 0 λ _ _=>Z1 b) w':=by
 have hgood:=gk.h;obtain⟨n,hn⟩:∃ n:Nat,YB s s.len=n:=Int.eq_ofNat_of_zero_le (by have:=XA hgood s.len (Nat.le_refl _);omega);have hn100:n<=100:=by have:=XA hgood s.len (Nat.le_refl _);have:=hgood.2.1;omega
 have DV:∀ W':World,[GM s W']->Fn 42 #[.agg #[.slice s.ad s.len s.cap,.int .i64 secs]] W' (.int .i64 n):=λ W' _=>by rw [<-hn];infer_instance
 have CL:∀ W',GM s W'->_:=λ W' m=>by
  haveI:=GM.rd m;exact Zmr s.ad s.len s.cap (JM s) W' (by have:=hgood.2.1;omega) (by simp [JM]) (by simp [JM,Value.oneCell']) (λ e=>by rw [m.addr 0 (by have:=hgood.1;omega)]at e;cases e)
 have J1:∀ {l:List SP} {w1 w2:World} {g2 cap':Nat},GM s w1->ZL W l w1->ZC 67 2 (some ⟨g2,0,none⟩) s.len cap' (JM s).flatten w2 w1->ZL W (X9 (s.at_ g2 cap')::l) w2/\GM s w2:=λ {l w1 w2 g2 cap'} m b o=>⟨b.join o.grw (by
  obtain⟨hp,a,r,q⟩:=Qy o (by simp [JM]) (by simp [JM])
  exact⟨hp,Zf4 r,a,q⟩),by obtain⟨g,rfl⟩:=o.grw;infer_instance⟩
 go_in
 go_upto_region 3 with (with_reducible refine Fn.go λ g=>?_)
 have B0:∀ g:Gr,ZL W [Zd (W.heap.size+1) #[.slice none 0 0,.int .i64 0,.slice none 0 0,.slice none 0 0] 31,Zd W.heap.size #[.slice s.ad s.len s.cap,.int .i64 secs] 24] (gr ((W.alloc (.cells #[.slice s.ad s.len s.cap,.int .i64 secs] 24)).alloc (.cells #[.slice none 0 0,.int .i64 0,.slice none 0 0,.slice none 0 0] 31)) g):=λ g =>
  (((ZL.nil W).push _ (QF _ _)).push _ (by rw [World.size_alloc];exact QF _ _)).gr g
 go_cut [6] (λ y wx=>∃ x g2 cap2 ab,y=.pointer (some ⟨x,0,none⟩)/\ZL W [Zd x #[.slice (some ⟨g2,0,none⟩) s.len cap2,.int .i64 secs,.slice none 0 0,.slice (some ⟨ab,0,none⟩) n n] 31,X9 (s.at_ g2 cap2),Jd ab (List.replicate n (.bool false)),Zd (W.heap.size+1) #[.slice none 0 0,.int .i64 0,.slice none 0 0,.slice none 0 0] 31,Zd W.heap.size #[.slice s.ad s.len s.cap,.int .i64 secs] 24] wx)
 case first =>
  refine plZ (.q [0,1,3,4,6] (.z 2 10 (.q [5] (.c 7 (.z 8 10 (.q [9] (.g 10 (.x [11] .d))) (.g 8 (.q [9] (.x [11] .d)))))) (.g 2 (.q [5,7] (.g 8 (.q [9] (.x [11] .d))))))) ?_;simp only [Zk.run,pick,gZ,gS,gA,gN]
  (repeat go_big_quiet_step (exact qZ));refine nZ ?_
  refine⟨?_,?_⟩
  ·rintro w1 ⟨g1,rfl⟩;go_wp2_with fail;refine(CL _ ii).mono ?_;rintro e w2 ⟨ad',cap',rfl,o,hne⟩;obtain⟨g2,rfl⟩:=o.some_ (.inr hgood.1);obtain⟨B1,gm2⟩:=J1 ii (B0 g1) o;dsimp only;go_wp2_with fail;dsimp only [Nx];refine⟨by obtain⟨g,rfl⟩:=o.grw;exact⟨_,ZW ..⟩,?_⟩;clear o hne
   (repeat go_big_quiet_step (exact qZ));refine nZ ?_
   (with_reducible apply za);(·kernel_rfl);(·rintro _ ⟨gC,rfl⟩;simp [Act.eval];exact inferInstance)
   refine⟨?_,?_⟩
   ·rintro _ ⟨g3,rfl⟩;go_wp2_with((with_reducible apply YP);(·exact rfl);(·exact rfl);(·omega);intro gM hMk);dsimp only [Nx];refine⟨⟨_,ZW ..⟩,?_⟩;go_frame
    (repeat go_big_quiet_step (exact qZ));refine nZ ?_
    rintro _ ⟨g4,rfl⟩;go_wp2_with fail;have B3:=((qR (B1.gr g3) hMk).gr g4).push (p:=Zd _ _ _) (.cells #[.slice none 0 0,.int .i64 0,.slice none 0 0,.slice none 0 0] 31) (QF _ _);dsimp only [Nx];refine⟨⟨_,by rw [<-ZW,<- ZW];exact ZK _ _ _⟩,?_⟩;rintro w5 hw5;simp only [ZW]at B3;have B4:=B3.cls hw5;haveI:=B4.cells (j:=0) rfl;clear hw5 B3;go_wp2_with fail;dsimp only [Nx];rintro w6 ⟨g6,rfl⟩;go_wp2_with fail
    go_meet
    exact⟨_,g2,_,_,rfl,(B4.set4.gr _).perm (.cons _ (.swap _ _ _))⟩
   ·rintro _ ⟨g3,rfl⟩;go_wp2_with fail;have B2:=(B1.gr g3).push (p:=Zd _ _ _) (.cells #[.slice none 0 0,.int .i64 0,.slice none 0 0,.slice none 0 0] 31) (QF _ _);dsimp only [Nx];refine⟨⟨_,ZK _ _ _⟩,?_⟩;rintro _ ⟨g4,rfl⟩;go_wp2_with((with_reducible apply YP);(·exact rfl);(·exact rfl);(·omega);intro gM hMk);have B3:=qR (B2.gr g4) hMk;dsimp only [Nx];refine⟨⟨_,ZW ..⟩,?_⟩;go_frame
    (repeat go_big_quiet_step (exact qZ));refine nZ ?_
    rintro w5 hw5;have B4:=(B3.perm (.swap _ _ _)).cls hw5;haveI:=B4.cells (j:=0) rfl;clear hw5 B3;go_wp2_with fail;dsimp only [Nx];rintro w6 ⟨g6,rfl⟩;go_wp2_with fail
    go_meet
    exact⟨_,g2,_,_,rfl,(B4.set4.gr _).perm (.cons _ (.swap _ _ _))⟩
  ·rintro _ ⟨g1,rfl⟩;go_wp2_with fail;have B1:=(B0 g1).push (p:=Zd _ _ _) (.cells #[.slice none 0 0,.int .i64 0,.slice none 0 0,.slice none 0 0] 31) (QF _ _);dsimp only [Nx];refine⟨⟨_,ZK _ _ _⟩,?_⟩;rintro w1 hw1;have B2:=B1.cls hw1;haveI:GM s w1:=by obtain⟨g2,rfl⟩:=hw1;infer_instance
   have c1:w1.cell? ⟨W.heap.size,0,none⟩=some (.slice s.ad s.len s.cap):=by
    haveI:=B2.cells (j:=2) rfl;simp [go_sem]
   clear B1;go_wp2_with fail;refine(CL _ ii).mono ?_;rintro e w2 ⟨ad',cap',rfl,o,hne⟩;obtain⟨g2,rfl⟩:=o.some_ (.inr hgood.1);obtain⟨B3,gm2⟩:=J1 ii B2 o;dsimp only;go_wp2_with fail;dsimp only [Nx];refine⟨by obtain⟨ga,rfl⟩:=hw1;obtain⟨gb,e⟩:=o.grw;exact⟨_,by rw [e,ZW]⟩,?_⟩;clear o hne hw1 B2 c1
   (repeat go_big_quiet_step (exact qZ));refine nZ ?_
   rintro w3 hw3;have B5:=B3.cls hw3;clear B3;go_wp2_with((with_reducible apply YP);(·exact rfl);(·exact rfl);(·omega);intro gM hMk);have B6:=qR B5 hMk;dsimp only [Nx];refine⟨by obtain⟨ga,rfl⟩:=hw3;exact⟨_,ZW ..⟩,?_⟩;clear hw3;go_frame
   (repeat go_big_quiet_step (exact qZ));refine nZ ?_
   rintro w5 hw5;have B4:=(B6.perm ((List.Perm.cons _ (.swap _ _ _)).trans (.swap _ _ _))).cls hw5;haveI:=B4.cells (j:=0) rfl;clear hw5 B6 B5;go_wp2_with fail;dsimp only [Nx];rintro w6 ⟨g6,rfl⟩;go_wp2_with fail
   go_meet
   exact⟨_,g2,_,_,rfl,(B4.set4.gr _).perm (.cons _ (.swap _ _ _))⟩
 case rest =>
  obtain⟨x,g2,cap2,ab,rfl,B⟩:=hcut;haveI:=B.cells (j:=0) rfl;obtain⟨L,hL⟩:∃ L:Nat->List Nat->Option Addr->Nat->List SP,L=λ k ds ad cap=>[Zd x #[.slice (some ⟨g2,0,none⟩) s.len cap2,.int .i64 secs,.slice ad k cap,.slice (some ⟨ab,0,none⟩) n n] 31,Zd (W.heap.size+1) #[.slice none 0 0,.int .i64 0,.slice none 0 0,.slice none 0 0] 31,Zd W.heap.size #[.slice s.ad s.len s.cap,.int .i64 secs] 24,X9 (s.at_ g2 cap2),Jd ab (List.replicate n (.bool false)),Zw 60 1 ad k cap (ds.map λ d=>[.pointer (some ⟨d,0,none⟩)])]++ds.map λ d=>Qh d secs 0 λ _=>Z1 b:=⟨_,rfl⟩
  have B0:ZL W (L 0 [] none 0) wc:=by
   rw [hL];exact(B.perm (.cons _ (List.perm_append_comm (l₁:=[X9 (s.at_ g2 cap2),Jd ab (List.replicate n (.bool false))])))).more (Zw.nil ..)
  go_wp2_with fail
  go_loopw [26] (λ i wr=>∃(k:Nat)(ds:List Nat)(ad:Option Addr)(cap:Nat),k<=n/\i=.int .i64 k/\ds.length=k/\ZL W (L k ds ad cap) wr)
   (λ i _=>n-(intOf i).toNat)
  case atStart=>exact⟨0,[],none,0,Nat.zero_le _,rfl,rfl,B0⟩
  case round =>
   clear B0 B;obtain⟨k,ds,ad,cap,hk,rfl,hds,B⟩:=hrel;rw [hL]at B;haveI:=B.cells (j:=0) rfl;haveI:=B.cells (j:=1) rfl;haveI:=B.cells (j:=2) rfl
   by_cases hlt:k<n
   ·have hL:=Lib.hid hL;have NT:=ZkG secs (by have:=hgood.2.2.1;omega) (by have:=hgood.2.2.2.1;omega);go_wp2_with fail;refine(B.calln NT).mono ?_;rintro e w1 ⟨v,rfl,B1⟩;obtain⟨d,rfl,B2⟩:=B1.exs;clear B B1;dsimp only;go_wp2_with fail;refine(B2.call (i:=0) (Zh5 d secs 0 _ (by have:=hgood.2.2.1;omega) b) rfl).mono ?_;rintro e w2 ⟨v,rfl,B3⟩;rw [List.set_cons_zero]at B3;clear B2;haveI:=B3.cells (j:=1) rfl;dsimp only;go_wp2_with(at_builtin;refine Zbb (i:=6) (B3.alloc _) rfl rfl rfl ii ⟨by simp [Value.oneCell']⟩ rfl (by omega) (by omega) λ lb' cap' w4 B4=>?_;haveI:=B4.cells (j:=1) rfl);refine⟨⟨k+1,ds++[d],some ⟨lb',0,none⟩,cap',hlt,by go_num,by simp [hds],?_⟩,by simp [intOf];omega⟩;rw [hL.out];simp only [List.map_append,List.map_cons,List.map_nil];rw [<-List.append_assoc];exact(B4.set (i:=1) rfl 2 (.slice (some ⟨lb',0,none⟩) (k+1) cap')).perm (List.perm_append_comm (l₁:=[Qh d secs 0 λ _=>Z1 b]))
   ·obtain rfl:n=k:=by omega
    go_wp2_with fail;have B5:=(B.drop.set4 (a:=.slice (some ⟨g2,0,none⟩) s.len cap2) (b:=.int .i64 secs) (c:=.slice ad n cap) (d:=.slice (some ⟨ab,0,none⟩) n n))
    have hn0:0<n:=by
     have h1:=Jr hgood s.len 0 (by have:=hgood.1;omega) (Nat.le_refl _);have h2:=Yk hgood (k:=0) (by have:=hgood.1;omega);simp only [YB]at h1;omega
    clear B;obtain⟨_,hx,st,_,_⟩:=id B5;obtain⟨h0,p0,_⟩:=st.get (i:=4) rfl
    obtain⟨lb,rfl⟩:∃ lb,ad=some ⟨lb,0,none⟩:=by
     rcases p0.2.2 with ⟨_,h1,_⟩|⟨g,e,_⟩
     ·omega
     ·exact⟨g,e⟩
    haveI:=B5.cells (j:=0) rfl;refine bodyPost_ret (Zbz (z:=4) rfl _ _ (W.heap.size+1) _ rfl (Zfc rfl) Tryz.underlying31 (by kernel_rfl)) rfl ?_;subst hds;refine⟨⟨s.at_ g2 cap2,secs,lb,cap,ab,ds.length,ds,λ _ _=>Z1 b,false⟩,rfl,rfl,⟨⟨g2,cap2,rfl⟩,rfl,rfl⟩,(B5.drop.drop.turns ⟨λ n o e=>by cases e⟩).mono λ h' st=>⟨⟨hgood,?_,hn100⟩,?_⟩⟩
    ·show (ds.length:Int)=YB (s.at_ g2 cap2) s.len;rw [<-hn,ZdA]
    ·have e:zT ⟨s.at_ g2 cap2,secs,lb,cap,ab,ds.length,ds,λ _ _=>Z1 b,false⟩ 0 (λ _ _=>Z1 b)=ds.map λ d=>Qh d secs 0 λ _=>Z1 b:=by
      refine List.ext_getElem (by simp [zT]) λ i h1 h2=>?_
      simp [zT]at h1;simp [zT,h1]
     show star (zT ⟨s.at_ g2 cap2,secs,lb,cap,ab,ds.length,ds,λ _ _=>Z1 b,false⟩ 0 (λ _ _=>Z1 b)++_) h';rw [e];refine star.perm (List.perm_append_comm (l₁:=[X9 (s.at_ g2 cap2),Jd lb (zb ds),Jd ab (List.replicate ds.length (.bool false))])) ?_;refine star.perm (.cons _ (.swap _ _ _)) ?_;refine(λ q:_/\_=>star.mono2 q.1 q.2 st) ⟨rfl,λ i p q e1 e2 h hp=>?_⟩
     match i,e1,e2 with
     |0,e1,e2=>cases e1;cases e2;exact hp
     |1,e1,e2=>cases e1;cases e2;exact hp
     |2,e1,e2=>cases e1;cases e2;exact Zj1 hp
     |i+3,e1,e2=>exact(Option.some.inj ((show (ds.map λ d=>Qh d secs 0 λ _=>Z1 b)[i]?=some p from e1).symm.trans e2))▸hp
end Go.Proofs.YtlfjdjndhcmliaaGreatDoor
namespace Go.Proofs.YtlfjdjndhcmliaaGreatDoor
open Go.RowKit Go.Sort
section
variable(s:ZO)(secs:Int)[k:Ky s secs](W:World)[m:GM s W]
include k m in
set_option maxRecDepth 512 in
theorem Za4(ag aa bg ba z:Int)(h1:0<=aa/\aa<=40000)(h2:0<=ba/\ba<=40000)(h:ag≠bg\/aa+Xu s ag z<=ba\/ba+Xu s bg z<=aa) :
  Fn 228 #[.agg #[.slice s.ad s.len s.cap,.int .i64 secs],.agg #[.int .i64 ag,.int .i64 aa],.agg #[.int .i64 bg,.int .i64 ba],.int .i64 z] W (.bool true):=by
 refine⟨?_⟩;have b1:=zK s secs ag z;have b2:=zK s secs bg z
 by_cases e:ag=bg
 ·subst e;have e1:(ag !=ag)=false:=by simp
  by_cases e2:aa+Xu s ag z<=ba
  ·have e3:=decide_eq_true e2;clear h
   go_in
   go_wp2_with fail;refine plZ (.q [0,1,2,3,4,5,6,7,8,9,10,11,12,13,14,15,16,17,18,19,20,21,22,23,24,25,26,27,28,29,30,31] .d) ?_;simp only [Zk.run,pick,gZ,gS,gA,gN]
   (repeat go_big_quiet_step (exact qZ));refine nZ ?_;rintro _ ⟨g,rfl⟩
   go_wp2_with fail;go_ret;exact ZM.mk rfl grown
  ·have h3:ba+Xu s ag z<=aa:=by omega
   have e3:=decide_eq_false e2;clear h
   go_in
   go_wp2_with fail;refine plZ (.q [0,1,2,3,4,5,6,7,8,9,10,11,12,13,14,15,16,17,18,19,20,21,22,23,24,25,26,27,28,29,30,31] .d) ?_;simp only [Zk.run,pick,gZ,gS,gA,gN]
   (repeat go_big_quiet_step (exact qZ));refine nZ ?_;rintro _ ⟨g,rfl⟩
   go_wp2_with fail;go_ret;exact ZM.mk rfl grown
 ·have e1:(ag !=bg)=true:=by simpa using e
  clear h
  go_in
  go_wp2_with fail;refine plZ (.q [0,1,2,3,4,5,6,7,8,9,10,11,12,13,14,15,16,17,18,19,20,21,22,23,24,25,26,27,28,29,30,31] .d) ?_;simp only [Zk.run,pick,gZ,gS,gA,gN]
  (repeat go_big_quiet_step (exact qZ));refine nZ ?_;rintro _ ⟨g,rfl⟩
  go_wp2_with fail;go_ret;exact ZM.mk rfl grown
structure J9(s:ZO)(secs:Int)(p:Pt):Prop where
 lv:0<=p.level/\p.level<=3
 bt:1<=p.birth/\p.birth<=4294967295
 a:XG s secs p.ag p.aa p.size=true
 one:p.two=false->p.bg=0/\p.ba=0
 b:p.two=true->XG s secs p.bg p.ba p.size=true/\(p.ag≠p.bg\/p.aa+Xu s p.ag p.size<=p.ba\/p.ba+Xu s p.bg p.size<=p.aa)
include k m in
theorem je(p:Pt)(h:J9 s secs p):Fn 184 #[.agg #[.slice s.ad s.len s.cap,.int .i64 secs],.agg p.cs] W (.bool true):=by
 refine⟨?_⟩;obtain⟨⟨l0,l1⟩,⟨b0,b1⟩,ha,h1,hb⟩:=h;have OA:∀ w z g a,GM s w->_:=λ w z g a (_:GM s w)=>kR s secs g a z w
 have e1:decide (p.level<0)=false:=decide_eq_false (by omega);have e2:decide (3<p.level)=false:=decide_eq_false (by omega);have e3:decide (p.birth<1)=false:=decide_eq_false (by omega);have e4:decide (4294967295<p.birth)=false:=decide_eq_false (by omega);have ha':=Lib.hid ha;have hb':=Lib.hid hb;have h1':=Lib.hid h1;have a1:=Xg ha;clear ha hb h1
 go_in
 go_wp2_with fail;refine(OA _ _ _ _ ii).mono ?_;rintro e w' ⟨hy,_⟩;obtain⟨ad,cap,rfl,o⟩:=hy ha'.out;obtain⟨g1,rfl⟩:=o.grw;clear hy o;dsimp only;cases h2:p.two
 ·obtain⟨z1,z2⟩:=h1'.out h2;go_wp2_with fail;go_ret;exact ZM.mk rfl grown
 ·obtain⟨hb,hap⟩:=hb'.out h2;have hb:=Lib.hid hb;have a2:=Xg hb.out;haveI:=Za4 s secs (gr W g1) p.ag p.aa p.bg p.ba p.size a1.2.2 a2.2.2 hap;have AP:∀ w,GM s w->Fn 228 #[.agg #[.slice s.ad s.len s.cap,.int .i64 secs],.agg #[.int .i64 p.ag,.int .i64 p.aa],.agg #[.int .i64 p.bg,.int .i64 p.ba],.int .i64 p.size] w (.bool true):=λ w _=>Za4 s secs w p.ag p.aa p.bg p.ba p.size a1.2.2 a2.2.2 hap
  clear hap;go_wp2_with fail;refine(OA _ _ _ _ ii).mono ?_;rintro e w' ⟨hy,_⟩;obtain⟨ad,cap,rfl,o⟩:=hy hb.out;obtain⟨g2,rfl⟩:=o.grw;clear hy o;dsimp only;go_wp2_with fail;refine @Fn.go _ _ _ _ _ (AP _ ii) λ g=>?_
  dsimp only;go_wp2_with fail;go_ret;exact ZM.mk rfl grown
end
section
variable(s:ZO)(secs:Int)[k:Ky s secs](W:World)[m:GM s W]
structure KH(s:ZO)(secs:Int)(n:Nd):Prop where
 sz:0<=n.size/\n.size<=16384
 r:n.root.isNone=true\/n.root.isNone=false/\J9 s secs n.root/\n.root.level=zN n.size
include k m in
theorem jr(n:Nd)(h:KH s secs n):Fn 145 #[.agg #[.slice s.ad s.len s.cap,.int .i64 secs],.agg n.cs] W (.bool true):=by
 refine⟨?_⟩;obtain⟨⟨l0,l1⟩,h⟩:=h;have e1:decide (n.size<0)=false:=decide_eq_false (by omega);have e2:decide (16384<n.size)=false:=decide_eq_false (by omega);rcases h with h|⟨h,hp,hl⟩
 ·have HN:∀ w,Fn 169 #[.agg #[.int .i64 n.root.ag,.int .i64 n.root.aa,.int .i64 n.root.bg,.int .i64 n.root.ba,.bool n.root.two,.int .i64 n.root.size,.int .i64 n.root.level,.int .i64 n.root.birth,.int .u64 n.root.sum.a,.int .u64 n.root.sum.b,.int .u64 n.root.sum.c,.int .u64 n.root.sum.d]] w (.bool true):=λ w=>by have e:=Y4 n.root w;rw [h]at e;exact e
  clear h
  go_in
  go_wp2_with fail;refine plZ (.q [0,1,2,3,4,5,6,7,8,9,10,11,12,13,14,15,16,17,18] .d) ?_;simp only [Zk.run,pick,gZ,gS,gA,gN]
  (repeat go_big_quiet_step (exact qZ));refine nZ ?_;rintro _ ⟨g,rfl⟩
  go_wp2_with fail;go_ret;exact ZM.mk rfl grown
 ·have HN:∀ w,Fn 169 #[.agg #[.int .i64 n.root.ag,.int .i64 n.root.aa,.int .i64 n.root.bg,.int .i64 n.root.ba,.bool n.root.two,.int .i64 n.root.size,.int .i64 n.root.level,.int .i64 n.root.birth,.int .u64 n.root.sum.a,.int .u64 n.root.sum.b,.int .u64 n.root.sum.c,.int .u64 n.root.sum.d]] w (.bool false):=λ w=>by have e:=Y4 n.root w;rw [h]at e;exact e
  have HP:∀ w,[GM s w]->Fn 184 #[.agg #[.slice s.ad s.len s.cap,.int .i64 secs],.agg #[.int .i64 n.root.ag,.int .i64 n.root.aa,.int .i64 n.root.bg,.int .i64 n.root.ba,.bool n.root.two,.int .i64 n.root.size,.int .i64 n.root.level,.int .i64 n.root.birth,.int .u64 n.root.sum.a,.int .u64 n.root.sum.b,.int .u64 n.root.sum.c,.int .u64 n.root.sum.d]] w (.bool true):=λ w _=>je s secs w n.root hp
  have hl':(n.root.level==zN n.size)=true:=by simp [hl]
  clear h hp hl
  go_in
  go_wp2_with fail;refine plZ (.q [0,1,2,3,4,5,6,7,8,9,10,11,12,13,14,15,16,17,18] .d) ?_;simp only [Zk.run,pick,gZ,gS,gA,gN]
  (repeat go_big_quiet_step (exact qZ));refine nZ ?_;rintro _ ⟨g,rfl⟩
  go_wp2_with fail;go_ret;exact ZM.mk rfl grown
end
end Go.Proofs.YtlfjdjndhcmliaaGreatDoor
