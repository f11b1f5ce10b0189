/- WholeOld, part 19. -/
import Derived.Test.YtlfjdjndhcmliaaGreatDoorA17
set_option maxRecDepth 100000
set_option maxHeartbeats 4000000
set_option linter.all false
namespace Go.Proofs.YtlfjdjndhcmliaaGreatDoor
open Go.RowKit Go.Sort
section
variable{st:Nat}{S:KS->Nat->SP}(T:VT st S)
include T
theorem ZbI(K:KS)(c:Nat){n0 d:Nat}{p0:Pt}{g0:Nat->UInt8}(t0:Tr K n0 p0 g0)(hn0:n0<=3)(hto:d<=n0):Tq 162 #[Jv st,.agg p0.cs,.int .i64 n0,.int .i64 d] (S K c) λ v q=>∃ p:Pt,(v=.tuple #[.agg p.cs,.int .i64 0]/\q=S K c)/\Tr K d p g0:=by
 refine Tq.of λ W h B=>?_
 go_in
 go_wp2_with fail
 go_loopw [2] (λ lv wr=>∃(n:Nat)(p:Pt),n<=3/\d<=n/\lv=.int .i64 n/\Tr K n p g0/\Bt W h [Zd (W.heap.size+1) Pt.none.cs 50,Zd W.heap.size p.cs 50,S K c] wr)
  (λ lv _=>(intOf lv).toNat)
 case atStart=>exact⟨n0,p0,hn0,hto,rfl,t0,ii⟩
 case round =>
  clear B;obtain⟨n,p,hn,ht,rfl,t,B⟩:=hrel;rcases Nat.lt_or_ge d n with hlt|hge
  ·obtain⟨n,rfl⟩:∃ m,n=m+1:=⟨n-1,by omega⟩
   cases hp:p.isNone
   ·have L:=zh T K c t (by omega);have HN:∀ w,Fn 169 #[.agg p.cs] w (.bool false):=λ w=>by have e:=Y4 p w;rw [hp]at e;exact e
    have hlt':(d:Int)<(n:Int)+1:=by omega
    clear hp;go_wp2_with(first|(with_reducible refine Fn.go λ g=>?_)|((with_reducible apply Za);(·exact rfl);(·exact ii))|((with_reducible apply Z2);(·exact rfl);(·exact rfl);(·exact ii)));refine(Bt.call L).mono ?_;rintro e w1 ⟨v,q,rfl,⟨l,⟨rfl,rfl⟩,hf,_,hl⟩,B1⟩;dsimp only at B1 ⊢;go_wp2_with((with_reducible apply Za);(·exact rfl);(·exact ii));exact⟨⟨n,l 0,by omega,by omega,by go_num,Tr.down hl,Bt.drop ii⟩,by simp [intOf]⟩
   ·obtain rfl:=(Pt.isNone_iff p).1 hp;have hlt':(d:Int)<(n:Int)+1:=by omega
    clear hp;go_wp2_with(first|(with_reducible refine Fn.go λ g=>?_)|((with_reducible apply Za);(·exact rfl);(·exact ii))|((with_reducible apply Z2);(·exact rfl);(·exact rfl);(·exact ii)))
    (refine bodyPost_ret (YQ rfl _ _ _ _ rfl ii) rfl ?_)
    exact⟨_,_,rfl,⟨Pt.none,⟨rfl,rfl⟩,Tr.zero K λ j hj=>t.zeros j (by have:=ye (show d<=n+1 by omega);unfold span at *;omega)⟩,Bt.fin⟩
  ·obtain rfl:d=n:=by omega
   go_wp2_with((with_reducible apply Za);(·exact rfl);(·exact ii))
   (refine bodyPost_ret (YQ rfl _ _ _ _ rfl ii) rfl ?_)
   exact⟨_,_,rfl,⟨p,⟨rfl,rfl⟩,t⟩,Bt.fin⟩
end
end Go.Proofs.YtlfjdjndhcmliaaGreatDoor
