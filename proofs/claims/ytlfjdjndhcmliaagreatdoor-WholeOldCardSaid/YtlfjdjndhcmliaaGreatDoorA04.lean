/- WholeOld, part 4. -/
import Derived.Test.YtlfjdjndhcmliaaGreatDoorA01
import Derived.Laws.ResultCell
import Derived.Test.YtlfjdjndhcmliaaGreatDoorA03
set_option maxRecDepth 100000
set_option maxHeartbeats 4000000
set_option linter.all false
namespace Go.Proofs.YtlfjdjndhcmliaaGreatDoor
open Go.RowKit Go.Sort
theorem alloc_heap_new(w:World)(o:Obj):(w.alloc o).heap[w.heap.size]?=some o:=by show (w.heap.push o)[w.heap.size]?=_;simp
theorem KM{W W':World}{B:Nat}{e:TypeId}{sz:Nat}{v:Value}{n:Nat}{xs:List Value}(h:W.ownsRow B e sz v n xs)(hk:∀ g,v.ownBlock=some g->W'.heap[g]?=W.heap[g]?):W'.ownsRow B e sz v n xs:=by
 refine⟨h.1,?_⟩;rcases h.2 with hn|⟨g,cap,cur,rfl,hb,hg,hrest⟩
 ·exact .inl hn
 ·exact .inr ⟨g,cap,cur,rfl,hb,(hk g rfl).trans hg,hrest⟩
theorem ZP{P:Program}{ops:Array Oper}{rest:List Oper}{o:Oper}{a:Act}{Q:Exit->Act->World->Prop}{w:World}(hgd:o.guard=none)(d s:Operand)(t t':TypeId)
  (ho:o.op=.call { callee:=.builtin .append,args:=#[d,s],argTypes:=#[t,t'] }) (v u:Value) (hd:a.eval d=v) (hs:a.eval s=u) {v':Value} {w':World}
  (hr:(Builtin.append_ #[t,t'] o.type #[v,u]).run P w=.ok v' w') (h:wpList P ops Q rest (a.put o.dst v') w'):wpList P ops Q (o::rest) a w:=by
 refine wpList_plain hgd λ K hK=>?_
 unfold Oper.wp execOp;simp only [ho,resolve,invoke,builtin,Sem.run_bind,Sem.run_pure,Result.andThen_ok,List.map_toArray,List.map_cons,List.map_nil,hd,hs,hr];exact hK _ _ h
theorem KV{P:Program}(w:World)(base:Nat)(t u ty e:TypeId)(i:TypeInfo)(ht:P.underlying t=some (.slice e))(hu:P.underlying u=some .string)(hi:P.info? e=some i)(hz:i.zero=some (.int .u8 0))
  (hsize:i.size=1) (hby:i.bytes=1) (v:Value) (n:Nat) (xs:List Value) (hown:w.ownsRow base e 1 v n xs) (s:ByteArray) (h63:n+s.size<=maxLen) (hbytes:n+s.size<=140737488355328) (hbase:base<=w.heap.size) :
  ∃ v' w',(Builtin.append_ #[t,u] ty #[v,.string s]).run P w=.ok v' w'/\w'.ownsRow base e 1 v' (n+s.size) (xs++Lib.strCells s)/\w.grownBy w' v.ownBlock/\(v'=.slice none 0 0↔v=.slice none 0 0/\s.size=0)/\(v'.ownBlock=v.ownBlock\/v'.ownBlock=some w.heap.size):=by
 obtain⟨v',w',hr,h2,h3,h4⟩:=Lib.run_append_own_string (P:=P) w base t u ty e i ht hu hi hz hsize hby v n xs hown s h63 hbytes hbase;refine⟨v',w',hr,h2,h3,h4,?_⟩;have hsmall:n+s.size<=9223372036854775807:=by simp only [maxLen]at h63;omega
 have hxl:xs.length=n:=by simpa using hown.1
 rcases hown.2 with ⟨rfl,rfl⟩|⟨g,cap,cur,rfl,hbg,hg,hnc,hcm,hcs,htake⟩
 ·by_cases hm:s.size=0
  ·left;rw [h4.2 ⟨rfl,hm⟩]
  ·have hr':=run_append_nil_string (P:=P) w t u ty e i (.int .u8 0) ht hu hi hz s (by omega) (by omega) (by rw [hby];omega);rw [hr']at hr;injection hr with e1 _;right;rw [<-e1];rfl
 ·by_cases hroom:n+s.size<=cap
  ·have hr':=Lib.run_append_room_string (P:=P) w t u ty e i ht hu hi hsize g n cap cur hg s hroom (by omega);rw [hr']at hr;injection hr with e1 _;left;rw [<-e1];rfl
  ·have hr':=Lib.run_append_grow_string (P:=P) w t u ty e i (.int .u8 0) ht hu hi hz ⟨g,0,none⟩ n cap xs (by rw [hsize];simpa using hxl) (hown.cells (g:=g) rfl) s (by omega) (by omega) (by rw [hby];exact growslice_fits (by omega) (by omega));rw [hr']at hr;injection hr with e1 _;right;rw [<-e1];rfl
structure BIs(h:Hl)(b:Nat)(l:List UInt8)(p v:Value):Prop where
 self:p=.pointer none\/p=.pointer (some ⟨b,0,none⟩)
 blk:h b=some (.cells #[p,v] 160 (0,0))
 dom:∀ k,h k≠none->k=b\/v.ownBlock=some k
 row:(v=.slice none 0 0/\l=[])\/∃ g cap cur,v=.slice (some ⟨g,0,none⟩) l.length cap/\l≠[]/\h g=some (.cells cur 5 (0,0))/\l.length<=cap/\cap<=maxLen/\cur.size=cap/\cur.toList.take l.length=Lib.byteCells l
def Bl(b:Nat)(l:List UInt8)(h:Hl):Prop:=∃ p v,BIs h b l p v
theorem BIs.own{h:Hl}{b:Nat}{l:List UInt8}{p v:Value}(i:BIs h b l p v)(W:World)[Has W h]:W.ownsRow 0 5 1 v l.length (Lib.byteCells l):=by
 refine⟨by rw [Lib.byteCells_length,Nat.mul_one],?_⟩;rcases i.row with ⟨h1,h2⟩|⟨g,cap,cur,h1,_,h2,h3,h4,h5,h6⟩
 ·left;rw [h2];exact⟨h1,rfl⟩
 ·right;exact⟨g,cap,cur,h1,Nat.zero_le _,Has.get _ _ h2,h3,h4,by rw [h5,Nat.mul_one],by rw [Nat.mul_one];exact h6⟩
theorem BIs.ne{h:Hl}{b:Nat}{l:List UInt8}{p v:Value}(i:BIs h b l p v):v.ownBlock≠some b:=by
 rcases i.row with ⟨h1,_⟩|⟨g,cap,cur,h1,_,h2,_⟩
 ·rw [h1];intro e;cases e
 ·intro e;rw [h1]at e;have e:g=b:=by injection e
  subst e;rw [i.blk]at h2;cases h2
theorem Zg1(W:World)(b:Nat)(l:List UInt8)(p v:Value)(hs:p=.pointer none\/p=.pointer (some ⟨b,0,none⟩))(hb:W.heap[b]?=some (.cells #[p,v] 160 (0,0)))(ho:W.ownsRow 0 5 1 v l.length (Lib.byteCells l))(hl:l=[]->v=.slice none 0 0) :
  ∃ h:Hl,Has W h/\BIs h b l p v:=by
 refine⟨λ k=>if k=b\/v.ownBlock=some k then W.heap[k]? else none,⟨λ n o e=>?_⟩,hs,by simp [hb],λ k hk=>?_,?_⟩
 ·split at e
  ·exact e
  ·cases e
 ·split at hk
  ·assumption
  ·exact absurd rfl hk
 ·rcases ho.2 with ⟨h1,h2⟩|⟨g,cap,cur,h1,_,h2,h3,h4,h5,h6⟩
  ·left;exact⟨h1,List.eq_nil_of_length_eq_zero h2⟩
  ·by_cases hn:l=[]
   ·left;exact⟨hl hn,hn⟩
   right;exact⟨g,cap,cur,h1,hn,by rw [h1];simp [Value.ownBlock,h2],h3,h4,by omega,by rw [Nat.mul_one]at h6;exact h6⟩
theorem ZkA(w:World):∃ h:Hl,Has (w.alloc (.cells #[.pointer none,.slice none 0 0] 160)) h/\Bl w.heap.size [] h/\∀ k,k<w.heap.size->h k=none:=by
 obtain⟨h,i,j⟩:=Zg1 (w.alloc (.cells #[.pointer none,.slice none 0 0] 160)) w.heap.size [] _ _ (.inl rfl) (alloc_heap_new _ _) (World.ownsRow_nil _ _ _ _) (λ _=>rfl);refine⟨h,i,⟨_,_,j⟩,λ k hk=>?_⟩;cases e:h k with
 |none=>rfl
 |some o =>
  rcases j.dom k (by rw [e];simp)with h1|h1
  ·omega
  ·cases h1
theorem Uh(b:Nat)(w:World)(h0:w.cell? ⟨b,0,none⟩=some (.pointer (some ⟨b,0,none⟩))) :
  Calls Tryz.prog 139 #[.pointer (some ⟨b,0,none⟩)] w λ e w'=>e=.returned (.tuple #[])/\w'=w:=by
 obtain⟨j,hj,_⟩:=Option.map_eq_some_iff.1 Tryz.Builder_Extra_169.sizeBuilder;have hj:Tryz.prog.info? 160=some j:=hj
 go_in
 go_wp2;rw [Lib.run_neq_ptr_same w _ Tryz.underlying158 hj];go_wp2;go_end0;exact⟨rfl,rfl⟩
theorem jP(b:Nat)(w:World)(h0:w.cell? ⟨b,0,none⟩=some (.pointer none))(hsh:w.shape? b=some (160,2))(hfz:w.frozen? ⟨b,0,none⟩=false) :
  Calls Tryz.prog 139 #[.pointer (some ⟨b,0,none⟩)] w λ e w'=>e=.returned (.tuple #[])/\w'=w.setCell ⟨b,0,none⟩ (.pointer (some ⟨b,0,none⟩)):=by
 obtain⟨j,hj,hjs⟩:=Option.map_eq_some_iff.1 Tryz.Builder_Extra_169.sizeBuilder;have hj:Tryz.prog.info? 160=some j:=hj
 go_in
 go_wp2;rw [Lib.run_to_unsafe w ⟨b,0,none⟩ Tryz.underlying158 Tryz.underlying297 hj (by rw [hjs];decide) hsh (Nat.zero_lt_succ 1)];simp only [Result.andThen];rw [Oper.upon_value];go_wp2;rw [run_callFunc_extern Tryz.func199 (by kernel_rfl) (by kernel_rfl) (by kernel_rfl) (e:=Extern.AbiNoEscape.same) (by kernel_rfl)];rw [Lib.run_noEscape];simp only [Result.andThen];rw [Oper.upon_value];go_wp2;rw [Lib.run_from_unsafe w ⟨b,0,none⟩ Tryz.underlying297 Tryz.underlying158 hj hsh Tryz.Builder_Extra_169.liesBuilder];simp only [Result.andThen];rw [Oper.upon_value];go_wp2;go_end0;exact⟨rfl,rfl⟩
theorem Zbm(h:Hl)(b:Nat)(l:List UInt8)(p v:Value)(i:BIs h b l p v)(w:World)[j:Has w h] :
  Calls Tryz.prog 139 #[.pointer (some ⟨b,0,none⟩)] w λ e w'=>e=.returned (.tuple #[])/\w'.heap[b]?=some (.cells #[.pointer (some ⟨b,0,none⟩),v] 160 (0,0))/\w'.ownsRow 0 5 1 v l.length (Lib.byteCells l)/\Xz h w w'/\w'.heap.size=w.heap.size:=by
 have hh:=j.get _ _ i.blk;have ho:=i.own w;have hne:=i.ne;rcases i.self with rfl|rfl
 ·refine(jP b w (by rw [Lib.cell_of_heap hh];rfl) (by simp [World.shape?,hh]) (Lib.frozen_of_heap hh 0)).mono ?_;rintro e w' ⟨rfl,rfl⟩;exact⟨rfl,by simp [World.setCell,Array.getElem?_modify,hh],KM ho λ k hk=>Below.heap_setCell _ _ _ _ (λ e=>hne (by rw [hk];simpa using e)),(Xz.refl h w).setCell (.inr (by rw [i.blk];simp)) _,World.size_setCell ..⟩
 ·refine(Uh b w (by rw [Lib.cell_of_heap hh];rfl)).mono ?_;rintro e w' ⟨rfl,rfl⟩;exact⟨rfl,hh,ho,Xz.refl _ _,rfl⟩
theorem zA(h:Hl)(b:Nat)(l:List UInt8)(s:ByteArray)(i:Bl b l h)(w:World)[j:Has w h](hlen:l.length+s.size<=1000000) :
  Calls Tryz.prog 78 #[.pointer (some ⟨b,0,none⟩),.string s] w λ e w'=>e=.returned (.tuple #[.int .i64 s.size,.nilIface])/\Zg w h (Bl b (l++s.data.toList)) w':=by
 obtain⟨p,v,i⟩:=i;obtain⟨i0,hi,hz0,hz1,hz2⟩:=info_parts Tryz.Builder_Extra_169.infoByte
 go_in
 go_wp2_with(go_at_call 139;refine(Zbm h b l p v i _).mono ?_);rintro e w1 ⟨rfl,hbk,hown,hm,hzw⟩;have hne:=i.ne;have hb':b<w.heap.size:=(j.lt i.blk)
 have c0:w1.cell? ⟨b,0,none⟩=some (.pointer (some ⟨b,0,none⟩)):=by rw [Lib.cell_of_heap hbk];rfl
 have c1:w1.cell? ⟨b,1,none⟩=some v:=by rw [Lib.cell_of_heap hbk];rfl
 obtain⟨v',w2,hr,ho2,hg2,hiff,hat⟩:=KV (P:=Tryz.prog) w1 0 99 9 99 5 i0 Tryz.underlying99 Tryz.underlying9 hi hz0 hz1 hz2 v l.length _ hown s (by unfold maxLen;omega) (by omega) (Nat.zero_le _);have hb2:w2.heap[b]?=some (.cells #[.pointer (some ⟨b,0,none⟩),v] 160 (0,0)):=by rw [hg2.block b (by omega) (λ e=>hne e.symm)];exact hbk
 have d0:w2.cell? ⟨b,0,none⟩=some (.pointer (some ⟨b,0,none⟩)):=by rw [Lib.cell_of_heap hb2];rfl
 have d1:w2.cell? ⟨b,1,none⟩=some v:=by rw [Lib.cell_of_heap hb2];rfl
 have f1:w2.frozen? ⟨b,1,none⟩=false:=Lib.frozen_of_heap hb2 1;have HO:=Lib.hid ho2;have HA:=Lib.hid hat
 have HN:Hid (l++s.data.toList=[]->v'=.slice none 0 0):=λ e=>by
  obtain⟨e1,e2⟩:=List.append_eq_nil_iff.1 e;refine hiff.2 ⟨?_,by rw [<-Zi,e2];rfl⟩;rcases i.row with ⟨h1,_⟩|⟨g,cap,cur,_,h1,_⟩
  ·exact h1
  ·exact absurd e1 h1
 have HM:Hid (Xz h w w2):=hm.trans ⟨hg2.os,hg2.tape,hg2.output,hg2.size,λ k hk e=>hg2.block k hk (λ e'=>by
  rcases i.row with ⟨h1,_⟩|⟨g,cap,cur,h1,_,h2,_⟩
  ·rw [h1]at e';cases e'
  ·rw [h1]at e';have e':k=g:=by injection e'
   rw [<-e']at h2;rw [h2]at e;cases e)⟩ λ _ _ e=>e
 have HB:=Lib.hid hb2;have hz2':=hg2.size
 obtain⟨ao,n',cap,rfl⟩:∃ ao n' cap,v'=.slice ao n' cap:=by
  rcases ho2.2 with ⟨hv,_⟩|⟨g,cap,cur,hv,_⟩
  ·exact⟨_,_,_,hv⟩
  ·exact⟨_,_,_,hv⟩
 have HI:=Lib.hid i;clear hown ho2 hat hm hg2 hi hz0 hz1 hz2 hiff i hb2 hbk;go_wp2_with(at_builtin;refine ZP rfl _ _ _ _ rfl _ _ rfl rfl hr ?_);go_ret2;refine⟨rfl,?_⟩;have i:=HI.out
 have hne2:(Value.slice ao n' cap).ownBlock≠some b:=λ e=>by
  rcases HA.out with h1|h1
  ·exact i.ne (h1.symm.trans e)
  ·rw [h1]at e;have:w1.heap.size=b:=by injection e
   omega
 have hb3:(w2.setCell ⟨b,1,none⟩ (.slice ao n' cap)).heap[b]?=some (.cells #[.pointer (some ⟨b,0,none⟩),.slice ao n' cap] 160 (0,0)):=by simp [World.setCell,Array.getElem?_modify,HB.out]
 obtain⟨h',j',i'⟩:=Zg1 (w2.setCell ⟨b,1,none⟩ (.slice ao n' cap)) b (l++s.data.toList) _ _ (.inr rfl) hb3 (by
  have hO:=KM (W':=w2.setCell ⟨b,1,none⟩ (.slice ao n' cap)) HO.out (λ k hk=>Below.heap_setCell _ _ _ _ (λ e=>hne2 (by rw [hk];exact congrArg some e)));have e1:(l++s.data.toList).length=l.length+s.size:=by rw [List.length_append,Zi]
  have e2:Lib.byteCells (l++s.data.toList)=Lib.byteCells l++Lib.strCells s:=by simp [Lib.byteCells,Lib.strCells]
  rw [e1,e2];exact hO) HN.out
 refine Zg.mk h' (HM.out.setCell (.inr (by show h b≠none;rw [i.blk];simp)) _) j' (λ n hn e=>?_) ⟨_,_,i'⟩;cases e':h' n with
 |none=>rfl
 |some o =>
  rcases i'.dom n (by rw [e'];simp)with h1|h1
  ·rw [h1,i.blk]at e;cases e
  ·rcases HA.out with h2|h2
   ·rw [h2]at h1;rcases i.row with ⟨h3,_⟩|⟨g,cp,cur,h3,_,h4,_⟩
    ·rw [h3]at h1;cases h1
    ·rw [h3]at h1;have h1:g=n:=by injection h1
     rw [<-h1,h4]at e;cases e
   ·rw [h2]at h1;have:w1.heap.size=n:=by injection h1
    omega
theorem ZhV(h:Hl)(b:Nat)(l:List UInt8)(i:Bl b l h)(w:World)[j:Has w h] :
  Calls Tryz.prog 79 #[.pointer (some ⟨b,0,none⟩)] w λ e w'=>e=.returned (.string ⟨l.toArray⟩)/\Xz h w w':=by
 obtain⟨p,v,i⟩:=i;have hbk:=j.get _ _ i.blk;rcases i.row with ⟨h1,h2⟩|⟨g,cap,cur,h1,hl0,h2,h3,h4,h5,h6⟩
 ·subst h1;subst h2;have hUS:∀(W:World)(q:Option Addr),(Builtin.unsafeString_ #[237,3] 9 #[.pointer q,.int .i64 0]).run Tryz.prog W=.ok (.string .empty) W:=λ W q=>Lib.run_unsafeString_none W _ _ _ q
  have c1:w.drew.cell? ⟨b,1,none⟩=some (.slice none 0 0):=by
   have:w.drew.heap[b]?=some (.cells #[p,.slice none 0 0] 160 (0,0)):=hbk;rw [Lib.cell_of_heap this];rfl
  have hSD:(Builtin.unsafeSliceData_ #[99] 237 #[.slice none 0 0]).run Tryz.prog w.drew=.ok (.pointer none) w.drew:=rfl;clear i hbk
  go_in
  go_wp2
  go_region
  all_goals(go_wp2;go_ret;exact⟨rfl,(Xz.refl h w).drew⟩)
 ·have hown:=i.own w;subst h1;have hg:=j.get _ _ h2;have hn0:l.length≠0:=by simpa using hl0
  have c1:w.drew.cell? ⟨b,1,none⟩=some (.slice (some ⟨g,0,none⟩) l.length cap):=by
   have:w.drew.heap[b]?=some (.cells #[p,.slice (some ⟨g,0,none⟩) l.length cap] 160 (0,0)):=hbk;rw [Lib.cell_of_heap this];rfl
  have hSD:(Builtin.unsafeSliceData_ #[99] 237 #[.slice (some ⟨g,0,none⟩) l.length cap]).run Tryz.prog w.drew=.ok (.pointer (some ⟨g,0,none⟩)) w.drew :=
   Lib.run_unsafeSliceData_row _ _ _ _ _ _ (by omega)
  have hUS:(Builtin.unsafeString_ #[237,3] 9 #[.pointer (some ⟨g,0,none⟩),.int .i64 l.length]).run Tryz.prog w.drew=.ok (.string ⟨l.toArray⟩) (w.drew.freeze ⟨g,0,none⟩ l.length):=by
   refine Lib.run_unsafeString_row w.drew 237 3 9 5 Tryz.underlying237 Tryz.Builder_Extra_169.cellsByte g cur.size (by have hg':w.drew.heap[g]?=some (.cells cur 5 (0,0)):=hg;simp [World.shape?,hg']) l hl0 (by omega) (by unfold maxLen at h4;omega) ?_;intro k x hx;exact hown.cells (g:=g) rfl k (.int .u8 x.toNat) (by simp [Lib.byteCells,hx])
  have HM:Hid (Xz h w (w.drew.freeze ⟨g,0,none⟩ l.length)):=by
   refine(Xz.refl h w).drew.trans (h':=h) ?_ λ _ _ e=>e
   unfold World.freeze;split
   ·exact Xz.refl _ _
   ·refine⟨rfl,rfl,rfl,by simp,λ k hk e=>?_⟩;simp only [Array.getElem?_modify];rw [if_neg (λ e':g=k=>by rw [<-e',h2]at e;cases e)]
  clear i hbk hown hg h2 h3 h4 h5 h6
  go_in
  go_wp2
  go_region
  all_goals(go_wp2;go_ret;exact⟨rfl,HM.out⟩)
structure Nd where
 size:Int
 root:Pt
def Nd.cs(n:Nd):Array Value:=#[.int .i64 n.size]++n.root.cs
def YN(l:Nat->Pt):Array Value:=(l 0).cs++(l 1).cs++(l 2).cs++(l 3).cs
theorem Pt.cs_size(p:Pt):p.cs.size=12:=rfl
theorem Nd.cs_size(n:Nd):n.cs.size=13:=rfl
theorem JW(l:Nat->Pt):(YN l).size=48:=by simp [YN,Array.size_append,Pt.cs_size]
section
variable(p:Pt)(n:Nd)
@[go_sem] theorem ZrV:p.cs[0]?=some (.int .i64 p.ag):=rfl
@[go_sem] theorem Zrf:p.cs[1]?=some (.int .i64 p.aa):=rfl
@[go_sem] theorem ZrE:p.cs[2]?=some (.int .i64 p.bg):=rfl
@[go_sem] theorem Zq9:p.cs[3]?=some (.int .i64 p.ba):=rfl
@[go_sem] theorem ZrJ:p.cs[4]?=some (.bool p.two):=rfl
@[go_sem] theorem Zrd:p.cs[5]?=some (.int .i64 p.size):=rfl
@[go_sem] theorem ZrQ:p.cs[6]?=some (.int .i64 p.level):=rfl
@[go_sem] theorem Zrn:p.cs[7]?=some (.int .i64 p.birth):=rfl
@[go_sem] theorem ZrY:p.cs[8]?=some (.int .u64 p.sum.a):=rfl
@[go_sem] theorem Zrr:p.cs[9]?=some (.int .u64 p.sum.b):=rfl
@[go_sem] theorem ZpY:p.cs[10]?=some (.int .u64 p.sum.c):=rfl
@[go_sem] theorem Zp3:p.cs[11]?=some (.int .u64 p.sum.d):=rfl
@[go_sem] theorem ZrF:n.cs[0]?=some (.int .i64 n.size):=rfl
@[go_sem] theorem ZqY:n.cs[5]?=some (.bool n.root.two):=rfl
@[go_sem] theorem Zre:n.cs[6]?=some (.int .i64 n.root.size):=rfl
@[go_sem] theorem ZrH:n.cs[7]?=some (.int .i64 n.root.level):=rfl
end
class ZJ(b o:Nat)(cs:outParam (Array Value))(z:Nat)(W:World):Prop where
 size:cs.size=z
 old:Yc b W
 cell:∀ j v,cs.toList[j]?=some v->W.cell? ⟨b,o+j,none⟩=some v
instance Zqp(b o z:Nat)(cs:Array Value)(W:World)(g:Gr)[h:ZJ b o cs z W]:ZJ b o cs z (gr W g):=by
 haveI:=h.old;exact⟨h.size,ii,λ j v e=>(Z7 ..).trans (h.cell j v e)⟩
instance Zp4(b o z:Nat)(cs:Array Value)(W:World)(h':Hl)(c:World)[h:ZJ b o cs z W][k:Out b h']:ZJ b o cs z (md W h' c):=by
 haveI:=h.old;exact⟨h.size,ii,λ j v e=>(Zj8 ..).trans (h.cell j v e)⟩
instance Zmq(b o z:Nat)(cs:Array Value)(W:World)(ob:Obj)[h:ZJ b o cs z W]:ZJ b o cs z (W.alloc ob):=by
 haveI:=h.old;exact⟨h.size,ii,λ j v e=>(QW ..).trans (h.cell j v e)⟩
theorem Kc{W:World}{b o z:Nat}{X cs:Array Value}{t:TypeId}[k:ZX W b](hz:cs.size=z)(h:∀ j v,cs.toList[j]?=some v->X[o+j]?=some v):ZJ b o cs z (W.alloc (.cells X t)) :=
 ⟨hz,ii,λ j v e=>by rw [Qc];exact h j v e⟩
instance Zp7(W:World)(b:Nat)(p:Pt)(t:TypeId)[k:ZX W b]:ZJ b 0 p.cs 12 (W.alloc (.cells p.cs t)):=Kc rfl λ j v e=>by rw [Nat.zero_add];simpa using e
instance ZqG(W:World)(b:Nat)(n:Nd)(t:TypeId)[k:ZX W b]:ZJ b 0 n.cs 13 (W.alloc (.cells n.cs t)):=Kc rfl λ j v e=>by rw [Nat.zero_add];simpa using e
instance ZpD(W:World)(b:Nat)(n:Nd)(t:TypeId)[k:ZX W b]:ZJ b 1 n.root.cs 12 (W.alloc (.cells n.cs t)):=Kc rfl λ j v e=>by
 unfold Nd.cs;rw [Array.getElem?_append_right (by simp)];simpa using e
instance Zrh(W:World)(b:Nat)(l:Nat->Pt)(t:TypeId)[k:ZX W b]:ZJ b 0 (YN l) 48 (W.alloc (.cells (YN l) t)):=Kc (JW l) λ j v e=>by rw [Nat.zero_add];simpa using e
theorem Ub(l:Nat->Pt)(k:Nat)(hk:k<4)(j:Nat)(v:Value)(e:(l k).cs.toList[j]?=some v):(YN l)[12*k+j]?=some v:=by
 have hj:j<12:=by
  have:=(List.getElem?_eq_some_iff.1 e).1
  rwa [Array.length_toList,Pt.cs_size]at this
 have e:(l k).cs[j]?=some v:=by simpa using e
 match k,hk with
 |0,_=>unfold YN;rw [Array.getElem?_append_left (by simp [Pt.cs_size];omega),Array.getElem?_append_left (by simp [Pt.cs_size];omega),Array.getElem?_append_left (by simp [Pt.cs_size];omega)];simpa using e
 |1,_=>unfold YN;rw [Array.getElem?_append_left (by simp [Pt.cs_size];omega),Array.getElem?_append_left (by simp [Pt.cs_size];omega),Array.getElem?_append_right (by simp [Pt.cs_size])];simpa [Pt.cs_size]using e
 |2,_=>unfold YN;rw [Array.getElem?_append_left (by simp [Pt.cs_size];omega),Array.getElem?_append_right (by simp [Pt.cs_size])];simpa [Pt.cs_size]using e
 |3,_=>unfold YN;rw [Array.getElem?_append_right (by simp [Pt.cs_size])];simpa [Pt.cs_size]using e
instance ZpP(W:World)(b:Nat)(l:Nat->Pt)(t:TypeId)[k:ZX W b]:ZJ b 0 (l 0).cs 12 (W.alloc (.cells (YN l) t)):=Kc rfl λ j v e=>Ub l 0 (by omega) j v e
instance Zp1(W:World)(b:Nat)(l:Nat->Pt)(t:TypeId)[k:ZX W b]:ZJ b 12 (l 1).cs 12 (W.alloc (.cells (YN l) t)):=Kc rfl λ j v e=>Ub l 1 (by omega) j v e
instance Zqn(W:World)(b:Nat)(l:Nat->Pt)(t:TypeId)[k:ZX W b]:ZJ b 24 (l 2).cs 12 (W.alloc (.cells (YN l) t)):=Kc rfl λ j v e=>Ub l 2 (by omega) j v e
instance Zqy(W:World)(b:Nat)(l:Nat->Pt)(t:TypeId)[k:ZX W b]:ZJ b 36 (l 3).cs 12 (W.alloc (.cells (YN l) t)):=Kc rfl λ j v e=>Ub l 3 (by omega) j v e
theorem ZS{P:Program}(W:World)(b o z:Nat)(cs:Array Value)(t:TypeId)(d:TypeDesc)[h:ZJ b o cs z W](hu:P.underlying t=some d)(hd:(match d with | .struct _ | .array _ _=>true|_=>false)=true)(hi:(P.info? t).map (·.size)=some z) :
  (Instr.loadAt t (.pointer (some ⟨b,o,none⟩))).run P W=.ok (.agg cs) W:=by
 have hl:(loadCells ⟨b,o,none⟩ cs.toList.length).run P W=.ok cs.toList.toArray W :=
  run_loadCells_list (P:=P) W ⟨b,o,none⟩ cs.toList (λ j v e=>by
   have hadd:(⟨b,o,none⟩:Addr).add j=⟨b,o+j,none⟩:=by unfold Addr.add;split<;>simp_all
   rw [hadd];exact h.cell j v e)
 cases hq:P.info? t with
 |none=>simp [hq]at hi
 |some i =>
  have hs:i.size=cs.toList.length:=by rw [hq]at hi;rw [Array.length_toList,h.size];simpa using hi
  rw [<-hs]at hl;cases d<;>simp at hd<;>simp [Instr.loadAt,loadVar,isAgg,run_underlying hu,sizeOf,typeInfo,hq,hl,Instr.sureAddr]
@[go_sem ↓] theorem ZiX (W:World) (b o:Nat) (cs:Array Value) [h:ZJ b o cs 12 W]:(Instr.loadAt 50 (.pointer (some ⟨b,o,none⟩))).run Tryz.prog W=.ok (.agg cs) W :=
 ZS W b o 12 cs _ _ Tryz.underlying50 rfl (by kernel_rfl)
@[go_sem ↓] theorem Zi8 (W:World) (b o:Nat) (cs:Array Value) [h:ZJ b o cs 13 W]:(Instr.loadAt 52 (.pointer (some ⟨b,o,none⟩))).run Tryz.prog W=.ok (.agg cs) W :=
 ZS W b o 13 cs _ _ Tryz.underlying52 rfl (by kernel_rfl)
@[go_sem ↓] theorem Zlv (W:World) (b o:Nat) (cs:Array Value) [h:ZJ b o cs 48 W]:(Instr.loadAt 265 (.pointer (some ⟨b,o,none⟩))).run Tryz.prog W=.ok (.agg cs) W :=
 ZS W b o 48 cs _ _ Tryz.underlying265 rfl (by kernel_rfl)
@[go_sem ↓] theorem Zm2 (W:World) (l:Nat->Pt):(Instr.index 265 (.agg (YN l)) (.int .i64 0)).run Tryz.prog W=.ok (.agg (l 0).cs) W:=by kernel_rfl
@[go_sem ↓] theorem Zmo (W:World) (l:Nat->Pt):(Instr.index 265 (.agg (YN l)) (.int .i64 1)).run Tryz.prog W=.ok (.agg (l 1).cs) W:=by kernel_rfl
@[go_sem ↓] theorem Zm1 (W:World) (l:Nat->Pt):(Instr.index 265 (.agg (YN l)) (.int .i64 2)).run Tryz.prog W=.ok (.agg (l 2).cs) W:=by kernel_rfl
@[go_sem ↓] theorem Zl1 (W:World) (l:Nat->Pt):(Instr.index 265 (.agg (YN l)) (.int .i64 3)).run Tryz.prog W=.ok (.agg (l 3).cs) W:=by kernel_rfl
section
variable(W:World)(n:Nat)(X:Array Value)
@[go_sem] theorem Zee (c:Array Value) (t:TypeId) [k:ZX W n]:(W.alloc (.cells c t)).setRow n X=W.alloc (.cells X t):=by
 have hk:=k.h;subst hk;refine congrArg (λ hp=>({ W with heap:=hp }:World)) (Array.ext_getElem? λ j=>?_);show ((W.heap.push (.cells c t)).modify W.heap.size _)[j]?=(W.heap.push (.cells X t))[j]?;simp only [Array.getElem?_modify,Array.getElem?_push]
 by_cases h:W.heap.size=j
 ·subst h;simp
 ·rw [if_neg h,if_neg (Ne.symm h),if_neg (Ne.symm h)]
@[go_sem] theorem Zkw (o:Obj) [k:Yc n W]:(W.alloc o).setRow n X=(W.setRow n X).alloc o:=by
 have hk:=k.h;refine congrArg (λ hp=>({ W with heap:=hp }:World)) (Array.ext_getElem? λ j=>?_);show ((W.heap.push o).modify n _)[j]?=((W.heap.modify n _).push o)[j]?;simp only [Array.getElem?_modify,Array.getElem?_push,Array.size_modify]
 by_cases h:n=j
 ·subst h;rw [if_pos rfl,if_neg (by omega),if_neg (by omega),if_pos rfl]
 ·rw [if_neg h,if_neg h]
@[go_sem] theorem ZlG (g:Gr) [k:Yc n W]:(gr W g).setRow n X=gr (W.setRow n X) g:=by
 simp only [gr,World.setRow,grow,redrawn];rw [modify_append_left _ _ _ _ k.h]
@[go_sem] theorem ZlI (h:Hl) (c:World) [k:Yc n W] [o:Out n h]:(md W h c).setRow n X=md (W.setRow n X) h c:=by
 have hk:=k.h;simp only [md,World.setRow]
 congr 1
 apply Array.ext_getElem?;intro j;simp only [Array.getElem?_modify,Array.getElem?_ofFn,Array.size_modify]
 by_cases hj:n=j
 ·subst hj;rw [if_pos rfl,dif_pos (by omega),if_pos ⟨hk,o.none⟩,dif_pos (by omega),if_pos ⟨hk,o.none⟩];simp [hk,Array.getElem_modify]
 ·rw [if_neg hj];split
  ·split<;>simp [Array.getElem?_modify,hj]
  ·rfl
end
instance Zoo(w:World)(b:Nat)(X:Array Value)(n:Nat)[k:Yc n w]:Yc n (w.setRow b X):=⟨by rw [setRow_size];exact k.h⟩
def upd(l:Nat->Pt)(k:Nat)(p:Pt)(j:Nat):Pt:=if j=k then p else l j
class JP(b:Nat)(l:outParam (Nat->Pt))(W:World):Prop where
 old:Yc b W
 blk:∃ t,W.heap[b]?=some (.cells (YN l) t (0,0))
instance Zpz(W:World)(b:Nat)(l:Nat->Pt)(t:TypeId)[k:ZX W b]:JP b l (W.alloc (.cells (YN l) t)):=⟨ii,t,by rw [<-k.h];exact alloc_heap_new _ _⟩
instance Zqi(b:Nat)(l:Nat->Pt)(W:World)(g:Gr)[h:JP b l W]:JP b l (gr W g):=by
 haveI:=h.old;obtain⟨t,e⟩:=h.blk;exact⟨ii,t,(XQ _ _ h.old.h).trans e⟩
instance Zmn(b:Nat)(l:Nat->Pt)(W:World)(o:Obj)[h:JP b l W]:JP b l (W.alloc o):=by
 haveI:=h.old;obtain⟨t,e⟩:=h.blk;exact⟨ii,t,(Below.heap_alloc _ _ _ h.old.h).trans e⟩
theorem Ql(p:Pt):∀ v∈p.cs.toList,v.oneCell'=true:=by simp [Pt.cs,Value.oneCell']
theorem ZdF(l:Nat->Pt)(p:Pt)(k:Nat)(hk:k<4):((YN l).toList.take (12*k+0)++p.cs.toList++(YN l).toList.drop (12*k+0+p.cs.toList.length)).toArray=YN (upd l k p):=by
 have e:∀ l:Nat->Pt,(YN l).toList=(l 0).cs.toList++((l 1).cs.toList++((l 2).cs.toList++(l 3).cs.toList)):=λ l=>by simp [YN]
 have hl:∀ p:Pt,p.cs.toList.length=12:=λ p=>rfl
 have ht:∀(p:Pt)(n:Nat),12<=n->p.cs.toList.take n=p.cs.toList:=λ p n h=>List.take_of_length_le (by rw [hl];exact h)
 have hd:∀(p:Pt)(n:Nat),12<=n->p.cs.toList.drop n=[]:=λ p n h=>List.drop_eq_nil_of_le (by rw [hl];exact h)
 apply Array.ext';rw [e (upd l k p),e l]
 match k,hk with
 |0,_=>simp [upd,hl]
 |1,_=>simp [upd,hl,hd,List.drop_append]
 |2,_=>simp [upd,hl,hd,ht,List.drop_append,List.take_append]
 |3,_=>simp [upd,hl,hd,ht,List.drop_append,List.take_append]
theorem jZ(W:World)(b:Nat)(l:Nat->Pt)(p:Pt)[h:JP b l W](k:Nat)(hk:k<4):(Instr.storeAt 50 (.pointer (some ⟨b,12*k,none⟩)) (.agg p.cs)).run Tryz.prog W=.ok () (W.setRow b (YN (upd l k p))):=by
 obtain⟨t,hb⟩:=h.blk;have hs:=run_storeCells_at Tryz.prog b (12*k) t p.cs.toList 0 (YN l) W hb (by rw [JW,Array.length_toList,Pt.cs_size];omega) (Ql p);rw [ZdF l p k hk]at hs;have hi:(Tryz.prog.info? 50).map (·.size)=some 12:=by kernel_rfl
 cases hq:Tryz.prog.info? 50 with
 |none=>simp [hq]at hi
 |some i =>
  have hz:i.size=12:=by rw [hq]at hi;simpa using hi
  simp [Instr.storeAt,storeVar,Instr.sureAddr,sizeOf,typeInfo,hq,Value.cells,Pt.cs_size,hz,hs]
@[go_sem ↓] theorem ZgO (W:World) (b:Nat) (l:Nat->Pt) (p:Pt) [h:JP b l W]:(Instr.storeAt 50 (.pointer (some ⟨b,0,none⟩)) (.agg p.cs)).run Tryz.prog W=.ok () (W.setRow b (YN (upd l 0 p))):=jZ W b l p 0 (by omega)
@[go_sem ↓] theorem Zg6 (W:World) (b:Nat) (l:Nat->Pt) (p:Pt) [h:JP b l W]:(Instr.storeAt 50 (.pointer (some ⟨b,12,none⟩)) (.agg p.cs)).run Tryz.prog W=.ok () (W.setRow b (YN (upd l 1 p))):=jZ W b l p 1 (by omega)
@[go_sem ↓] theorem ZhZ (W:World) (b:Nat) (l:Nat->Pt) (p:Pt) [h:JP b l W]:(Instr.storeAt 50 (.pointer (some ⟨b,24,none⟩)) (.agg p.cs)).run Tryz.prog W=.ok () (W.setRow b (YN (upd l 2 p))):=jZ W b l p 2 (by omega)
@[go_sem ↓] theorem Zhu (W:World) (b:Nat) (l:Nat->Pt) (p:Pt) [h:JP b l W]:(Instr.storeAt 50 (.pointer (some ⟨b,36,none⟩)) (.agg p.cs)).run Tryz.prog W=.ok () (W.setRow b (YN (upd l 3 p))):=jZ W b l p 3 (by omega)
section
variable{P:Program}(w:World)(d:Nat)(xs ys:Array Value)
def Zjn(P:Program)(w:World)(d:Nat)(xs ys:Array Value):List (TypeId × Nat)->Bool->Prop
 | [],r=>r=true
 |(t,o)::ks,r=>∃ a b r1 r2,(part t xs o).run P w=.ok a w/\(part t ys o).run P w=.ok b w/\(Op.equalIn d t a b).run P w=.ok r1 w/\Zjn P w d xs ys ks r2/\r=(r1&&r2)
theorem jv : ∀ (fs : List Field) (ks : List (TypeId × Nat)) (r : Bool), fs.map (λ f => (f.type, f.offset)) = ks -> fs.all (λ f => f.name != "_") = true -> Zjn P w d xs ys ks r -> (Op.eqFields d xs ys fs).run P w = .ok r w
 | [],_,r,rfl,_,h=>by
  have h:r=true:=h;rw [h];rfl
 |f::fs,_,r,rfl,hn,⟨a,b,r1,r2,h1,h2,h3,h4,h5⟩=>by
  simp only [List.all_cons,Bool.and_eq_true,bne_iff_ne]at hn;have ih:=jv fs _ r2 rfl hn.2 h4;unfold Op.eqFields;rw [if_pos hn.1];simp only [Sem.run_bind,h1,h2,h3,Result.andThen_ok];rw [h5];cases r1
  ·rfl
  ·simpa using ih
theorem yw(t:TypeId)(z:Nat):∀(is:List Nat)(r:Bool),Zjn P w d xs ys (is.map λ i=>(t,i*z)) r->(Op.eqItems d t z xs ys is).run P w=.ok r w
 | [],r,h=>by
  have h:r=true:=h;rw [h];rfl
 |i::is,r,⟨a,b,r1,r2,h1,h2,h3,h4,h5⟩=>by
  have ih:=yw t z is r2 h4;unfold Op.eqItems;simp only [Sem.run_bind,h1,h2,h3,Result.andThen_ok];rw [h5];cases r1
  ·rfl
  ·simpa using ih
theorem QO (t : TypeId) (ks : List (TypeId × Nat)) (r : Bool) (ht : P.underlying t = some (.struct (P.fieldsOf t))) (hp : P.stoodInHeld t = false) (hk : (P.fieldsOf t).toList.map (λ f => (f.type, f.offset)) = ks) (hn : (P.fieldsOf t).toList.all (λ f => f.name != "_") = true) (h : Zjn P w d xs ys ks r) :
  (Op.equalIn (d+1) t (.agg xs) (.agg ys)).run P w=.ok r w:=by
 rw [run_equalIn_struct w d t xs ys ht hp];exact jv w d xs ys _ ks r hk hn h
end
theorem ZaU(w:World)(d:Nat)(a b a' b':Int):(Op.equalIn (d+2) 45 (.agg #[.int .i64 a,.int .i64 b]) (.agg #[.int .i64 a',.int .i64 b'])).run Tryz.prog w=.ok ((a==a')&&((b==b')&&true)) w :=
 QO w (d+1) _ _ _ [(3,0),(3,1)] _ (by kernel_rfl) (by kernel_rfl) (by kernel_rfl) (by kernel_rfl) ⟨.int .i64 a,.int .i64 a',(a==a'),((b==b')&&true),by kernel_rfl,by kernel_rfl,run_equalIn_int w _ _ _ _ _ _ Tryz.underlying3,⟨.int .i64 b,.int .i64 b',(b==b'),true,by kernel_rfl,by kernel_rfl,run_equalIn_int w _ _ _ _ _ _ Tryz.underlying3,rfl,rfl⟩,rfl⟩
def zk(x y:S4):Bool:=(((x.a:Int)==(y.a:Int))&&(((x.b:Int)==(y.b:Int))&&(((x.c:Int)==(y.c:Int))&&(((x.d:Int)==(y.d:Int))&&true))))
theorem Zlz(w:World)(d:Nat)(x y:S4):(Op.equalIn (d+2) 48 (.agg #[.int .u64 x.a,.int .u64 x.b,.int .u64 x.c,.int .u64 x.d]) (.agg #[.int .u64 y.a,.int .u64 y.b,.int .u64 y.c,.int .u64 y.d])).run Tryz.prog w=.ok (zk x y) w:=by
 obtain⟨i,hi⟩:∃ i,Tryz.prog.info? 46=some i:=Option.isSome_iff_exists.1 (by kernel_rfl);rw [run_equalIn_array (P:=Tryz.prog) w (d+1) _ _ Tryz.underlying48 hi,show Tryz.prog.cellsOf 46=1 by kernel_rfl];exact yw w _ _ _ _ 1 [0,1,2,3] _ ⟨.int .u64 x.a,.int .u64 y.a,((x.a:Int)==(y.a:Int)),(((x.b:Int)==(y.b:Int))&&(((x.c:Int)==(y.c:Int))&&(((x.d:Int)==(y.d:Int))&&true))),by kernel_rfl,by kernel_rfl,run_equalIn_int w _ _ _ _ _ _ Tryz.underlying46,⟨.int .u64 x.b,.int .u64 y.b,((x.b:Int)==(y.b:Int)),(((x.c:Int)==(y.c:Int))&&(((x.d:Int)==(y.d:Int))&&true)),by kernel_rfl,by kernel_rfl,run_equalIn_int w _ _ _ _ _ _ Tryz.underlying46,⟨.int .u64 x.c,.int .u64 y.c,((x.c:Int)==(y.c:Int)),(((x.d:Int)==(y.d:Int))&&true),by kernel_rfl,by kernel_rfl,run_equalIn_int w _ _ _ _ _ _ Tryz.underlying46,⟨.int .u64 x.d,.int .u64 y.d,((x.d:Int)==(y.d:Int)),true,by kernel_rfl,by kernel_rfl,run_equalIn_int w _ _ _ _ _ _ Tryz.underlying46,rfl,rfl⟩,rfl⟩,rfl⟩,rfl⟩
theorem Zed(x y:S4):zk x y=true↔x=y:=by
 obtain⟨a,b,c,d⟩:=x;obtain⟨a',b',c',d'⟩:=y;simp only [zk,Bool.and_true,Bool.and_eq_true,beq_iff_eq,S4.mk.injEq];omega
def Uz(p q:Pt):Bool:=(((p.ag==q.ag)&&((p.aa==q.aa)&&true))&&(((p.bg==q.bg)&&((p.ba==q.ba)&&true))&&((p.two==q.two)&&((p.size==q.size)&&((p.level==q.level)&&((p.birth==q.birth)&&((zk p.sum q.sum)&&true)))))))
theorem UK(w:World)(d:Nat)(p q:Pt):(Op.equalIn (d+3) 50 (.agg p.cs) (.agg q.cs)).run Tryz.prog w=.ok (Uz p q) w :=
 QO w (d+2) _ _ _ [(45,0),(45,2),(4,4),(3,5),(3,6),(3,7),(48,8)] _ (by kernel_rfl) (by kernel_rfl) (by kernel_rfl) (by kernel_rfl) ⟨.agg #[.int .i64 p.ag,.int .i64 p.aa],.agg #[.int .i64 q.ag,.int .i64 q.aa],((p.ag==q.ag)&&((p.aa==q.aa)&&true)),(((p.bg==q.bg)&&((p.ba==q.ba)&&true))&&((p.two==q.two)&&((p.size==q.size)&&((p.level==q.level)&&((p.birth==q.birth)&&((zk p.sum q.sum)&&true)))))),by kernel_rfl,by kernel_rfl,ZaU w _ _ _ _ _,⟨.agg #[.int .i64 p.bg,.int .i64 p.ba],.agg #[.int .i64 q.bg,.int .i64 q.ba],((p.bg==q.bg)&&((p.ba==q.ba)&&true)),((p.two==q.two)&&((p.size==q.size)&&((p.level==q.level)&&((p.birth==q.birth)&&((zk p.sum q.sum)&&true))))),by kernel_rfl,by kernel_rfl,ZaU w _ _ _ _ _,⟨.bool p.two,.bool q.two,(p.two==q.two),((p.size==q.size)&&((p.level==q.level)&&((p.birth==q.birth)&&((zk p.sum q.sum)&&true)))),by kernel_rfl,by kernel_rfl,run_equalIn_bool' w _ _ _ _ Tryz.underlying4,⟨.int .i64 p.size,.int .i64 q.size,(p.size==q.size),((p.level==q.level)&&((p.birth==q.birth)&&((zk p.sum q.sum)&&true))),by kernel_rfl,by kernel_rfl,run_equalIn_int w _ _ _ _ _ _ Tryz.underlying3,⟨.int .i64 p.level,.int .i64 q.level,(p.level==q.level),((p.birth==q.birth)&&((zk p.sum q.sum)&&true)),by kernel_rfl,by kernel_rfl,run_equalIn_int w _ _ _ _ _ _ Tryz.underlying3,⟨.int .i64 p.birth,.int .i64 q.birth,(p.birth==q.birth),((zk p.sum q.sum)&&true),by kernel_rfl,by kernel_rfl,run_equalIn_int w _ _ _ _ _ _ Tryz.underlying3,⟨.agg #[.int .u64 p.sum.a,.int .u64 p.sum.b,.int .u64 p.sum.c,.int .u64 p.sum.d],.agg #[.int .u64 q.sum.a,.int .u64 q.sum.b,.int .u64 q.sum.c,.int .u64 q.sum.d],(zk p.sum q.sum),true,by kernel_rfl,by kernel_rfl,Zlz w _ p.sum q.sum,rfl,rfl⟩,rfl⟩,rfl⟩,rfl⟩,rfl⟩,rfl⟩,rfl⟩
theorem J5(p q:Pt):Uz p q=true↔p=q:=by
 unfold Uz;obtain⟨a,b,c,d,e,f,g,h,i⟩:=p;obtain⟨a',b',c',d',e',f',g',h',i'⟩:=q;simp only [Bool.and_true,Bool.and_eq_true,beq_iff_eq,Zed,Pt.mk.injEq];simp only [and_assoc]
def yg(l m:Nat->Pt):Bool:=Uz (l 0) (m 0)&&(Uz (l 1) (m 1)&&(Uz (l 2) (m 2)&&(Uz (l 3) (m 3)&&true)))
theorem Zlo(w:World)(d:Nat)(l m:Nat->Pt):(Op.equalIn (d+4) 265 (.agg (YN l)) (.agg (YN m))).run Tryz.prog w=.ok (yg l m) w:=by
 obtain⟨i,hi⟩:∃ i,Tryz.prog.info? 50=some i:=Option.isSome_iff_exists.1 (by kernel_rfl);rw [run_equalIn_array (P:=Tryz.prog) w (d+3) _ _ Tryz.underlying265 hi,show Tryz.prog.cellsOf 50=12 by kernel_rfl];exact yw w _ _ _ _ 12 [0,1,2,3] _ ⟨.agg (l 0).cs,.agg (m 0).cs,_,_,by kernel_rfl,by kernel_rfl,UK w d _ _,⟨.agg (l 1).cs,.agg (m 1).cs,_,_,by kernel_rfl,by kernel_rfl,UK w d _ _,⟨.agg (l 2).cs,.agg (m 2).cs,_,_,by kernel_rfl,by kernel_rfl,UK w d _ _,⟨.agg (l 3).cs,.agg (m 3).cs,_,_,by kernel_rfl,by kernel_rfl,UK w d _ _,rfl,rfl⟩,rfl⟩,rfl⟩,rfl⟩
theorem qL(l m:Nat->Pt):yg l m=true↔∀ k,k<4->l k=m k:=by
 simp only [yg,Bool.and_true,Bool.and_eq_true,J5];constructor
 ·rintro⟨h0,h1,h2,h3⟩ k hk
  match k,hk with
  |0,_=>exact h0
  |1,_=>exact h1
  |2,_=>exact h2
  |3,_=>exact h3
 ·exact λ h=>⟨h 0 (by omega),h 1 (by omega),h 2 (by omega),h 3 (by omega)⟩
class XF(t:TypeId)(z:outParam Nat):Prop where
 run:∀(W:World)(b o:Nat)(cs:Array Value),ZJ b o cs z W->(Instr.loadAt t (.pointer (some ⟨b,o,none⟩))).run Tryz.prog W=.ok (.agg cs) W
instance:XF 50 12:=⟨λ W b o cs _=>ZiX W b o cs⟩
instance:XF 52 13:=⟨λ W b o cs _=>Zi8 W b o cs⟩
instance:XF 265 48:=⟨λ W b o cs _=>Zlv W b o cs⟩
class KA(t:TypeId)(b o:Nat)(v:Array Value)(W:World)(W':outParam World):Prop where
 run:(Instr.storeAt t (.pointer (some ⟨b,o,none⟩)) (.agg v)).run Tryz.prog W=.ok () W'
instance Zrw(b:Nat)(l:Nat->Pt)(p:Pt)(W:World)[h:JP b l W]:KA 50 b 0 p.cs W (W.setRow b (YN (upd l 0 p))):=⟨ZgO W b l p⟩
instance Zrl(b:Nat)(l:Nat->Pt)(p:Pt)(W:World)[h:JP b l W]:KA 50 b 12 p.cs W (W.setRow b (YN (upd l 1 p))):=⟨Zg6 W b l p⟩
instance ZrI(b:Nat)(l:Nat->Pt)(p:Pt)(W:World)[h:JP b l W]:KA 50 b 24 p.cs W (W.setRow b (YN (upd l 2 p))):=⟨ZhZ W b l p⟩
instance ZrG(b:Nat)(l:Nat->Pt)(p:Pt)(W:World)[h:JP b l W]:KA 50 b 36 p.cs W (W.setRow b (YN (upd l 3 p))):=⟨Zhu W b l p⟩
def Y9(_:Nat):Pt:=Pt.none
class Zbd(t:TypeId)(v:outParam (Array Value)):Prop where
 run:∀ w:World,(Instr.build t #[]).run Tryz.prog w=.ok (.agg v) w
instance:Zbd 50 Pt.none.cs:=⟨λ _=>by kernel_rfl⟩
instance:Zbd 52 (Nd.mk 0 Pt.none).cs:=⟨λ _=>by kernel_rfl⟩
instance:Zbd 265 (YN Y9):=⟨λ _=>by kernel_rfl⟩
theorem ZcN(w:World)(p:Pt):(Instr.build 265 #[(0,.agg p.cs)]).run Tryz.prog w=.ok (.agg (YN (upd Y9 0 p))) w:=by kernel_rfl
class kz(t:TypeId)(xs ys:Array Value)(r:outParam Bool):Prop where
 run:∀ w:World,(Op.equalIn 10000 t (.agg xs) (.agg ys)).run Tryz.prog w=.ok r w
 guard:Tryz.prog.eqGuardType Tryz.prog.depth t=false
def Pt.isNone(p:Pt):Bool:=Uz p Pt.none
instance Zna(p:Pt):kz 50 p.cs Pt.none.cs p.isNone:=⟨λ w=>UK w 9997 p _,by kernel_rfl⟩
instance Vu(l m:Nat->Pt):kz 265 (YN l) (YN m) (yg l m):=⟨λ w=>Zlo w 9996 l m,by kernel_rfl⟩
section
variable{ops:Array Oper}{rest:List Oper}{Q:Exit->Act->World->Prop}{a:Act}{w:World}{d:Option Tmp}{ty:TypeId}{pos:String}{aft:Array Edge}{C:World->Prop}{K:Act->Prop}
theorem Ya{o:Oper}{v:Value}{w':World}(hg:o.guard=none)(hr:(execOp a.eval o).run Tryz.prog w=.ok (.value v) w')(h:wpList Tryz.prog ops Q rest (a.put o.dst v) w'):wpList Tryz.prog ops Q (o::rest) a w:=by
 refine wpList_plain hg λ K hK=>?_
 unfold Oper.wp;rw [hr];exact hK _ _ h
theorem Za{t:TypeId}{x:Operand}{b o z:Nat}{cs:Array Value}[k:XF t z](hx:a.eval x=.pointer (some ⟨b,o,none⟩))(hs:ZJ b o cs z w)(h:wpList Tryz.prog ops Q rest (a.put d (.agg cs)) w) :
  wpList Tryz.prog ops Q ({ dst:=d,op:=.load t x,type:=ty,pos:=pos,after:=aft,guard:=none }::rest) a w:=by
 refine Ya (v:=.agg cs) (w':=w) rfl ?_ h;simp only [execOp,hx,Sem.run_bind,k.run w b o cs hs,Result.andThen_ok,Sem.run_pure]
theorem Zb{t:TypeId}{x y:Operand}{b o:Nat}{cs:Array Value}{W':World}(hx:a.eval x=.pointer (some ⟨b,o,none⟩))(hy:a.eval y=.agg cs)(hs:KA t b o cs w W')(h:wpList Tryz.prog ops Q rest a W') :
  wpList Tryz.prog ops Q ({ dst:=none,op:=.store t x y,type:=ty,pos:=pos,after:=aft,guard:=none }::rest) a w:=by
 refine wpList_plain rfl λ K hK=>?_
 unfold Oper.wp;simp only [execOp,hx,hy,Sem.run_bind,hs.run,Result.andThen_ok,Sem.run_pure];exact hK _ _ h
theorem Zj{t:TypeId}{v:Array Value}[k:Zbd t v](h:wpList Tryz.prog ops Q rest (a.put d (.agg v)) w) :
  wpList Tryz.prog ops Q ({ dst:=d,op:=.build t #[],type:=ty,pos:=pos,after:=aft,guard:=none }::rest) a w:=by
 refine Ya (v:=.agg v) (w':=w) rfl ?_ h;simp only [execOp,List.map_toArray,List.map_nil,Sem.run_bind,k.run w,Result.andThen_ok,Sem.run_pure]
theorem Uv{x:Operand}{p:Pt}(hx:a.eval x=.agg p.cs)(h:wpList Tryz.prog ops Q rest (a.put d (.agg (YN (upd Y9 0 p)))) w) :
  wpList Tryz.prog ops Q ({ dst:=d,op:=.build 265 #[(0,x)],type:=ty,pos:=pos,after:=aft,guard:=none }::rest) a w:=by
 refine Ya (v:=.agg _) (w':=w) rfl ?_ h;simp only [execOp,List.map_toArray,List.map_cons,List.map_nil,hx,Sem.run_bind,ZcN w p,Result.andThen_ok,Sem.run_pure]
theorem ZaM(w:World)(z:Int)(p:Pt):(Instr.build 52 #[(0,.int .i64 z),(1,.agg p.cs)]).run Tryz.prog w=.ok (.agg (Nd.mk z p).cs) w:=by kernel_rfl
theorem Xb{x y:Operand}{z:Int}{p:Pt}(hx:a.eval x=.int .i64 z)(hy:a.eval y=.agg p.cs)(h:wpList Tryz.prog ops Q rest (a.put d (.agg (Nd.mk z p).cs)) w) :
  wpList Tryz.prog ops Q ({ dst:=d,op:=.build 52 #[(0,x),(1,y)],type:=ty,pos:=pos,after:=aft,guard:=none }::rest) a w:=by
 refine Ya (v:=.agg _) (w':=w) rfl ?_ h;simp only [execOp,List.map_toArray,List.map_cons,List.map_nil,hx,hy,Sem.run_bind,ZaM w z p,Result.andThen_ok,Sem.run_pure]
theorem Jh{t t':TypeId}{x y:Operand}{xs ys:Array Value}{r:Bool}(hx:a.eval x=.agg xs)(hy:a.eval y=.agg ys)(hs:kz t xs ys r)(h:wpList Tryz.prog ops Q rest (a.put d (.bool r)) w) :
  wpList Tryz.prog ops Q ({ dst:=d,op:=.binOp .eql t x y t',type:=ty,pos:=pos,after:=aft,guard:=none }::rest) a w:=by
 refine Ya (v:=.bool r) (w':=w) rfl ?_ h;simp only [execOp,hx,hy,Sem.run_bind,run_eqGuard_agg (P:=Tryz.prog) w .eql t x y xs ys hs.guard,run_eql_struct,hs.run w,Result.andThen_ok,Sem.run_pure]
theorem Zc{t:TypeId}{x:Operand}{b o z:Nat}{cs:Array Value}[k:XF t z](hx:a.eval x=.pointer (some ⟨b,o,none⟩))(hs:∀ w',C w'->ZJ b o cs z w')(h:wpQuiet Tryz.prog ops C K rest (a.put d (.agg cs))) :
  wpQuiet Tryz.prog ops C K ({ dst:=d,op:=.load t x,type:=ty,pos:=pos,after:=aft,guard:=none }::rest) a:=by
 unfold wpQuiet;rw [if_pos (by simp [Region.wanted])];refine⟨.agg cs,λ w hw=>?_,h⟩;unfold Oper.quietAt
 have:(execOp a.eval { dst:=d,op:=.load t x,type:=ty,pos:=pos,after:=aft,guard:=none }).run Tryz.prog w=.ok (.value (.agg cs)) w:=by
  simp only [execOp,hx,Sem.run_bind,k.run w b o cs (hs w hw),Result.andThen_ok,Sem.run_pure]
 rw [this];exact⟨rfl,rfl⟩
end
instance Y4(p:Pt)(W:World):Fn 169 #[.agg p.cs] W (.bool p.isNone):=by
 refine⟨?_⟩
 go_in
 go_wp2_with(first|((with_reducible apply Za);(·exact rfl);(·exact ii))|(with_reducible apply Zj)|((with_reducible apply Jh);(·exact rfl);(·exact rfl);(·exact ii)));go_ret;exact ZM.mk rfl grown
attribute [go_sem] Pt.cs_size Nd.cs_size JW
class Row(b n:Nat)(W:World):Prop where
 old:Yc b W
 blk:∃ cs t,cs.size=n/\W.heap[b]?=some (.cells cs t (0,0))
theorem row_of{W:World}{b n:Nat}{cs:Array Value}{t:TypeId}[k:ZX W b](h:cs.size=n):Row b n (W.alloc (.cells cs t)):=⟨ii,cs,t,h,by rw [<-k.h];exact alloc_heap_new _ _⟩
instance Zqq(W:World)(b:Nat)(a0 a1 a2 a3 a4 a5 a6 a7 a8 a9 a10 a11:Value)(t:TypeId)[k:ZX W b]:Row b 12 (W.alloc (.cells #[a0,a1,a2,a3,a4,a5,a6,a7,a8,a9,a10,a11] t)):=row_of rfl
instance Zqs(W:World)(b:Nat)(a0 a1 a2 a3 a4 a5 a6 a7 a8 a9 a10 a11 a12:Value)(t:TypeId)[k:ZX W b]:Row b 13 (W.alloc (.cells #[a0,a1,a2,a3,a4,a5,a6,a7,a8,a9,a10,a11,a12] t)):=row_of rfl
instance ZpX(b n:Nat)(W:World)(g:Gr)[h:Row b n W]:Row b n (gr W g):=by
 haveI:=h.old;obtain⟨cs,t,z,e⟩:=h.blk;exact⟨ii,cs,t,z,(XQ _ _ h.old.h).trans e⟩
instance ZmF(b n:Nat)(W:World)(o:Obj)[h:Row b n W]:Row b n (W.alloc o):=by
 haveI:=h.old;obtain⟨cs,t,z,e⟩:=h.blk;exact⟨ii,cs,t,z,(Below.heap_alloc _ _ _ h.old.h).trans e⟩
theorem KL(W:World)(b n:Nat)(cs:Array Value)(hn:cs.size=n)(hc:∀ v∈cs.toList,v.oneCell'=true)[h:Row b n W]:(storeCells ⟨b,0,none⟩ cs.toList).run Tryz.prog W=.ok () (W.setRow b cs):=by
 obtain⟨xs,t,hz,hb⟩:=h.blk;have hs:=run_storeCells_at Tryz.prog b 0 t cs.toList 0 xs W hb (by rw [Array.length_toList];omega) hc
 have e:(xs.toList.take 0++cs.toList++xs.toList.drop (0+cs.toList.length)).toArray=cs:=by
  rw [List.drop_eq_nil_of_le (by rw [Array.length_toList,Array.length_toList];omega)];simp
 rw [e]at hs;exact hs
theorem ZbL(p:Nd):∀ v∈p.cs.toList,v.oneCell'=true:=by simp [Nd.cs,Pt.cs,Value.oneCell']
theorem ZaE(l:Nat->Pt):∀ v∈(YN l).toList,v.oneCell'=true:=by
 intro v hv;simp only [YN,Array.toList_append,List.mem_append]at hv;rcases hv with ((hv|hv)|hv)|hv<;>exact Ql _ v hv
section
variable(W:World)(b:Nat)
@[go_sem] theorem ZlL (p:Pt) [h:Row b 12 W]:(storeCells ⟨b,0,none⟩ p.cs.toList).run Tryz.prog W=.ok () (W.setRow b p.cs):=KL W b 12 _ rfl (Ql p)
@[go_sem] theorem ZlR (p:Nd) [h:Row b 13 W]:(storeCells ⟨b,0,none⟩ p.cs.toList).run Tryz.prog W=.ok () (W.setRow b p.cs):=KL W b 13 _ rfl (ZbL p)
@[go_sem] theorem ZlZ (l:Nat->Pt) [h:Row b 48 W]:(storeCells ⟨b,0,none⟩ (YN l).toList).run Tryz.prog W=.ok () (W.setRow b (YN l)):=KL W b 48 _ (JW l) (ZaE l)
theorem yQ(l:Nat->Pt)(p:Pt)[h:JP b l W](k:Nat)(hk:k<4):(storeCells ⟨b,12*k,none⟩ p.cs.toList).run Tryz.prog W=.ok () (W.setRow b (YN (upd l k p))):=by
 obtain⟨t,hb⟩:=h.blk;have hs:=run_storeCells_at Tryz.prog b (12*k) t p.cs.toList 0 (YN l) W hb (by rw [JW,Array.length_toList,Pt.cs_size];omega) (Ql p);rw [ZdF l p k hk]at hs;exact hs
@[go_sem] theorem Zm6 (l:Nat->Pt) (p:Pt) [h:JP b l W]:(storeCells ⟨b,0,none⟩ p.cs.toList).run Tryz.prog W=.ok () (W.setRow b (YN (upd l 0 p))):=yQ W b l p 0 (by omega)
@[go_sem] theorem Zmm (l:Nat->Pt) (p:Pt) [h:JP b l W]:(storeCells ⟨b,12,none⟩ p.cs.toList).run Tryz.prog W=.ok () (W.setRow b (YN (upd l 1 p))):=yQ W b l p 1 (by omega)
@[go_sem] theorem ZmS (l:Nat->Pt) (p:Pt) [h:JP b l W]:(storeCells ⟨b,24,none⟩ p.cs.toList).run Tryz.prog W=.ok () (W.setRow b (YN (upd l 2 p))):=yQ W b l p 2 (by omega)
@[go_sem] theorem ZmA (l:Nat->Pt) (p:Pt) [h:JP b l W]:(storeCells ⟨b,36,none⟩ p.cs.toList).run Tryz.prog W=.ok () (W.setRow b (YN (upd l 3 p))):=yQ W b l p 3 (by omega)
end
end Go.Proofs.YtlfjdjndhcmliaaGreatDoor
