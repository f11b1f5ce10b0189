/- WholeOld, part 10. -/
import Derived.Test.YtlfjdjndhcmliaaGreatDoorA09
import Derived.Test.YtlfjdjndhcmliaaGreatDoorA05
set_option maxRecDepth 100000
set_option maxHeartbeats 4000000
set_option linter.all false
namespace Go.Proofs.YtlfjdjndhcmliaaGreatDoor
open Go.RowKit Go.Sort
theorem Zc0{z:Nat}{ad:Option Addr}{n cap:Nat}{xs:List (List Value)}{W w:World}{h:Hl}{N:Nat}(r:Zy z ad n cap xs W)(m:Xz h W w)(o:Qf N h)(hN:∀ a,ad=some a->0<n->a.block<N):Zy z ad n cap xs w:=⟨r.len,λ k x hx=>by
 obtain⟨b,f,e1,e2,e3⟩:=r.cells k x hx;have hk:=(List.getElem?_eq_some_iff.1 hx).1;have hb:=hN _ e1 (by rw [<-r.len];omega);have e4:=m.block b e2.h (o.out b hb)
 exact⟨b,f,e1,⟨Nat.lt_of_lt_of_le e2.h m.size⟩,λ j v hv=>(World.cell?_of_block e4).trans (e3 j v hv)⟩⟩
theorem Zy.lt{z:Nat}{ad:Option Addr}{n cap:Nat}{xs:List (List Value)}{W:World}(r:Zy z ad n cap xs W):∀ a,ad=some a->0<n->a.block<W.heap.size:=by
 intro a e hn;obtain⟨b,f,e1,e2,_⟩:=r.cells 0 _ (List.getElem?_eq_getElem (by rw [r.len];exact hn));rw [e]at e1;injection e1 with e1;subst e1;exact e2.h
def ZdP(L:List YG)(i:Nat):Bool:=match L[i]? with
 |some c=>!c.par
 |none=>false
def Ke(L:List YG)(G:List ByteArray)(k:Nat):List UInt8:=((List.range k).filter (ZdP L)).flatMap λ i=>(G.getD i ⟨#[]⟩).data.toList
theorem UO{L:List YG}{G:List ByteArray}{k:Nat}{c:YG}{s:ByteArray}(hc:L[k]?=some c)(hs:G[k]?=some s):Ke L G (k+1)=Ke L G k++if c.par then []else s.data.toList:=by
 unfold Ke;rw [List.range_succ,List.filter_append,List.flatMap_append]
 congr 1
 cases hp:c.par<;>simp [ZdP,hc,hp,List.getD_eq_getElem?_getD,hs]
theorem Zby(L:List YG)(G:List ByteArray)(h:∀ s∈G,s.size=64):∀ k,(Ke L G k).length<=64*k
 |0=>by simp [Ke]
 |k+1=>by
  have ih:=Zby L G h k;unfold Ke at ih ⊢;rw [List.range_succ,List.filter_append,List.flatMap_append,List.length_append]
  have:(([k].filter (ZdP L)).flatMap λ i=>(G.getD i ⟨#[]⟩).data.toList).length<=64:=by
   cases hd:ZdP L k<;>simp [hd]
   cases hg:G[k]? with
   |none=>exact Nat.zero_le _
   |some s=>have:=h s (List.mem_of_getElem? hg);show s.size<=64;omega
  omega
theorem Zcg(ad ad2:Option Addr)(n cap cap2:Nat)(L:List YG)(G:List ByteArray)(W:World)[h:Zy 4 ad n cap (Ym L) W][h2:Zy 1 ad2 n cap2 (ZG G) W](hn:n<=100)(hL:∀ c∈L,0<=c.dev)(hG:∀ s∈G,s.size=64) :
  Calls Tryz.prog 361 #[.slice ad n cap,.slice ad2 n cap2,.int .i64 (-1)] W (ZM (.string ⟨(Ke L G n).toArray⟩) W):=by
 have hlen:L.length=n:=by have:=h.len;simpa [Ym]using this
 have hlen2:G.length=n:=by have:=h2.len;simpa [ZG]using this
 obtain⟨h0,a0,i0,o0⟩:=Zkm W W.heap.size
 go_in
 go_wp2_with fail
 go_loopw [13] (λ i wr=>∃ k:Nat,k<=n/\i=.int .i64 k/\Zg (W.alloc (.cells #[.pointer none,.slice none 0 0] 160)) h0 (Bl W.heap.size (Ke L G k)) wr)
  (λ i _=>n-(intOf i).toNat)
 case atStart=>exact⟨0,Nat.zero_le _,rfl,Zg.same a0 i0⟩
 case round =>
  obtain⟨k,hk,rfl,T⟩:=hrel;have r1:Zy 4 ad n cap (Ym L) wr:=Zc0 (ii:Zy 4 ad n cap (Ym L) (W.alloc (.cells #[.pointer none,.slice none 0 0] 160))) T.1 o0 h.lt;have r2:Zy 1 ad2 n cap2 (ZG G) wr:=Zc0 (ii:Zy 1 ad2 n cap2 (ZG G) (W.alloc (.cells #[.pointer none,.slice none 0 0] 160))) T.1 o0 h2.lt;obtain⟨m1,hp1,i1,x1,b1⟩:=T;have hcl:=Zby L G hG k
  by_cases hlt:k<n
  ·obtain⟨c,hc⟩:∃ c,L[k]?=some c:=⟨_,List.getElem?_eq_getElem (by omega)⟩
   obtain⟨s,hs⟩:∃ s,G[k]?=some s:=⟨_,List.getElem?_eq_getElem (by omega)⟩
   obtain⟨b,o,rfl,hb,c0,c1,c2,c3⟩:=jK r1 hc;obtain⟨b',o',rfl,hb',hd⟩:=r2.cells k [.string s] (by simp [ZG,hs]);have d0:=hd 0 _ rfl;rw [Nat.mul_one,Nat.add_zero]at d0;have hcd:=hL c (List.mem_of_getElem? hc);have hsz:=hG s (List.mem_of_getElem? hs);have hne:s.toList.isEmpty=false:=Yg (by omega);have hdv:(c.dev==-1)=false:=beq_eq_false_iff_ne.2 (by omega);have hsu:=UO hc hs;clear hc hs hd;cases hp:c.par
   ·rw [hp]at c2 hsu;have HS:=Lib.hid hsu;clear hsu;go_wp2_with fail;refine(zA hp1 _ _ _ b1 _ (by omega)).mono ?_;rintro e w' ⟨rfl,t⟩;have tn:Tn wr hp1 (wr.alloc (.cells #[.int .i64 c.dev,.int .i64 c.at_,.bool false,.int .i64 c.row] 370)) hp1:=ii;have HT:=Lib.hid (Zg.after m1 x1 (Zg.after tn.m tn.x t));clear t tn;dsimp only;go_wp2_with fail;exact⟨⟨k+1,hlt,by go_num,by rw [HS.out];exact HT.out⟩,by simp [intOf];omega⟩
   ·rw [hp]at c2 hsu;have HS:=Lib.hid hsu;have T2:=Zg.after m1 x1 (Zg.of (W:=wr) (h:=hp1) (w:=wr.alloc (.cells #[.int .i64 c.dev,.int .i64 c.at_,.bool true,.int .i64 c.row] 370)) (h':=hp1) (P:=Bl W.heap.size (Ke L G k)) b1);have HT:=Lib.hid T2;clear hsu T2;go_wp2_with fail;exact⟨⟨k+1,hlt,by go_num,by rw [HS.out];simpa using HT.out⟩,by simp [intOf];omega⟩
  ·obtain rfl:n=k:=by omega
   go_wp2_with fail;refine(ZhV hp1 _ _ b1 _).mono ?_;rintro e w' ⟨rfl,m⟩;dsimp only;go_wp2_with fail;go_ret;haveI:Qf W.heap.size hp1:=⟨λ k hk=>x1 k (by rw [World.size_alloc];omega) (o0.out k hk)⟩
   haveI:JL W.heap.size wr:=⟨by have:=m1.size;rw [World.size_alloc]at this;omega⟩
   exact ZM.mk rfl (Jf (Jf (X:=W.alloc (.cells #[.pointer none,.slice none 0 0] 160)) grown m1) m)
end Go.Proofs.YtlfjdjndhcmliaaGreatDoor
