/- WholeOld, part 7. -/
import Derived.Test.YtlfjdjndhcmliaaGreatDoorA06
import Derived.Test.YtlfjdjndhcmliaaGreatDoorA01
set_option maxRecDepth 100000
set_option maxHeartbeats 4000000
set_option linter.all false
namespace Go.Proofs.YtlfjdjndhcmliaaGreatDoor
theorem Jr{s:ZO}{secs:Int}(h:ZT s secs):∀(k j:Nat),j<k->k<=s.len->YB s j+s.y j<=YB s k
 |0,_,hj,_=>by omega
 |k+1,j,hj,hk=>by
  have hw:=Yk h (k:=k) (by omega);simp only [YB]
  by_cases e:j=k
  ·subst e;omega
  ·have:=Jr h k j (by omega) (by omega);omega
theorem Ze0(first:Int)(at_ wide i:Nat):∃ r0 r1:Int,Y6 first at_ wide (i+1)=Y6 first at_ wide i++[jq first at_ wide (Y6 first at_ wide i).length r0 false] \/
  Y6 first at_ wide (i+1)=Y6 first at_ wide i++[jq first at_ wide (Y6 first at_ wide i).length r0 true,jq first at_ wide ((Y6 first at_ wide i).length+1) r1 false]:=by
 refine⟨(i:Int)/((wide:Int)-1),(i:Int)/((wide:Int)-1),?_⟩;simp only [Y6];split<;>simp
theorem kU(first:Int)(at_ wide:Nat):∀(i k:Nat)(c:YG),(Y6 first at_ wide i)[k]?=some c->c.dev=first+((at_+k)%wide:Nat)/\c.at_=16+((at_+k)/wide:Nat)
 |0,k,c,e=>by simp [Y6]at e
 |i+1,k,c,e=>by
  obtain⟨r0,r1,e2|e2⟩:=Ze0 first at_ wide i
  ·rw [e2]at e;rw [List.getElem?_append]at e;split at e
   ·exact kU first at_ wide i k c e
   ·obtain⟨h1,h2⟩:=List.getElem?_eq_some_iff.1 e;have hk:k=(Y6 first at_ wide i).length:=by simp at h1;omega
    subst hk;simp at h2;rw [<-h2];exact⟨rfl,rfl⟩
  ·rw [e2]at e;rw [List.getElem?_append]at e;split at e
   ·exact kU first at_ wide i k c e
   ·obtain⟨h1,h2⟩:=List.getElem?_eq_some_iff.1 e;simp only [List.length_cons,List.length_nil]at h1
    by_cases hk:k=(Y6 first at_ wide i).length
    ·subst hk;simp at h2;rw [<-h2];exact⟨rfl,rfl⟩
    ·have hk:k=(Y6 first at_ wide i).length+1:=by omega
     subst hk;simp at h2;rw [<-h2];exact⟨rfl,rfl⟩
theorem ZaZ(first:Int)(at_ wide:Nat)(hw:3<=wide/\wide<=8)(i:Nat)(hi:i<=4):(Y6 first at_ wide i).length=i+(i+wide-2)/(wide-1):=by
 obtain⟨h1,h2⟩:=hw;have hww:wide=3\/wide=4\/wide=5\/wide=6\/wide=7\/wide=8:=by omega
 have hii:i=0\/i=1\/i=2\/i=3\/i=4:=by omega
 rcases hww with rfl|rfl|rfl|rfl|rfl|rfl<;>rcases hii with rfl|rfl|rfl|rfl|rfl<;>simp [Y6]
def uOf(kind wide first dev at_:Int):Int:=if kind=0 then at_-16 else(at_-16)*wide+(dev-first)
theorem dvm(x w:Nat):((x/w:Nat):Int)*(w:Int)+((x%w:Nat):Int)=(x:Int):=by
 have:=Nat.div_add_mod x w;have h2:w*(x/w)=(x/w)*w:=Nat.mul_comm _ _;rw [h2]at this;omega
theorem Xl{s:ZO}{secs:Int}(h:ZT s secs){grp:Nat}(hg:grp<s.len){at_ size:Nat}(hs:1<=size/\size<=4){k:Nat}{c:YG}(e:(Zz s grp at_ size)[k]?=some c) :
  YB s grp<=c.dev/\c.dev<YB s grp+s.y grp/\16<=c.at_ /\
  (at_:Int)<=uOf (s.x grp) (s.y grp) (YB s grp) c.dev c.at_/\uOf (s.x grp) (s.y grp) (YB s grp) c.dev c.at_<at_+Xt (s.x grp) (s.y grp) size /\
  (if s.x grp=0 then(k:Int)=(c.dev-YB s grp)*size+(c.at_-16-at_)else(k:Int)=uOf (s.x grp) (s.y grp) (YB s grp) c.dev c.at_-at_):=by
 obtain⟨w1,w2,w3⟩:=Yk h hg;obtain⟨wd,hwd⟩:=Int.eq_ofNat_of_zero_le (show 0<=s.y grp by omega);unfold Zz at e;simp only [Int.toNat_natCast]at e;rcases w3 with hx|⟨hx,h3⟩
 ·rw [if_pos hx,hwd,Int.toNat_natCast]at e;simp only [hx,if_true,uOf,Xt];obtain⟨h1,h2⟩:=List.getElem?_eq_some_iff.1 e;simp at h1 h2;subst h2;have hd:k/size<wd:=Nat.div_lt_of_lt_mul (by rw [Nat.mul_comm];exact h1);have hm:k%size<size:=Nat.mod_lt _ (by omega);have hdm:=dvm k size;have hn:(0:Int)<=((k/size:Nat):Int):=Int.natCast_nonneg _;simp only [Zbr];generalize k/size=q at *
  generalize k%size=r at *
  have e1:(YB s grp+(q:Int)-YB s grp)=(q:Int):=by omega
  rw [e1];refine⟨by omega,by omega,by omega,by omega,by omega,by omega⟩
 ·have hx0:¬ s.x grp=0:=by omega
  rw [if_neg hx0,hwd,Int.toNat_natCast]at e;simp only [hx0,if_false,uOf,Xt];have hk:=(List.getElem?_eq_some_iff.1 e).1;rw [ZaZ _ _ _ (by omega) _ hs.2]at hk;obtain⟨e1,e2⟩:=kU _ _ _ _ _ _ e;have hm:(at_+k)%wd<wd:=Nat.mod_lt _ (by omega);have hdm:=dvm (at_+k) wd
  have e3:(c.at_-16)*s.y grp+(c.dev-YB s grp)=(at_:Int)+k:=by
   rw [e1,e2,hwd];have:(16+(((at_+k)/wd:Nat):Int)-16)=(((at_+k)/wd:Nat):Int):=by omega
   rw [this];omega
  rw [e3]
  have hq:((size:Int)+s.y grp-2)/(s.y grp-1)=((size+wd-2)/(wd-1):Nat):=by
   rw [hwd];have:((size:Int)+(wd:Int)-2)=((size+wd-2:Nat):Int):=by omega
   rw [this];have:((wd:Int)-1)=((wd-1:Nat):Int):=by omega
   rw [this];exact(Int.natCast_ediv _ _).symm
  rw [hq];clear hq e3;generalize hq0:(at_+k)/wd=q at *
  generalize (at_+k)%wd=r at *
  refine⟨by omega,by omega,by omega,by omega,?_,by omega⟩;have:=Int.emod_nonneg ((size:Int)+((size+wd-2)/(wd-1):Nat)) (show (2:Int)≠0 by omega);omega
theorem Zgi{s:ZO}{secs:Int}(h:ZT s secs){grp:Nat}(hg:grp<s.len){at_ size:Nat}(hs:1<=size/\size<=4){k j:Nat}{c d:YG}(e:(Zz s grp at_ size)[k]?=some c)(e':(Zz s grp at_ size)[j]?=some d)(hd:c.dev=d.dev)(ha:c.at_=d.at_):k=j:=by
 have h1:=(Xl h hg hs e).2.2.2.2.2;have h2:=(Xl h hg hs e').2.2.2.2.2;rw [hd,ha]at h1;split at h1
 ·rename_i hx;rw [if_pos hx]at h2;omega
 ·rename_i hx;rw [if_neg hx]at h2;omega
theorem Zcy{s:ZO}{secs:Int}(h:ZT s secs){g g' a a' z z':Nat}(hg:g<s.len)(hg':g'<s.len)(hz:1<=z/\z<=4)(hz':1<=z'/\z'<=4)
  (hap:g=g'->∀ u:Nat,(a<=u/\(u:Int)<a+Xt (s.x g) (s.y g) z)->(a'<=u/\(u:Int)<a'+Xt (s.x g) (s.y g) z')->False) {k j:Nat} {c d:YG} (e:(Zz s g a z)[k]?=some c) (e':(Zz s g' a' z')[j]?=some d):c.dev≠d.dev\/c.at_≠d.at_:=by
 obtain⟨p1,p2,p3,p4,p5,_⟩:=Xl h hg hz e;obtain⟨q1,q2,q3,q4,q5,_⟩:=Xl h hg' hz' e'
 by_cases hgg:g=g'
 ·subst hgg
  false_or_by_contra
  rename_i hne;have hdev:c.dev=d.dev:=by false_or_by_contra;rename_i h3;exact hne (.inl h3)
  have hat:c.at_=d.at_:=by false_or_by_contra;rename_i h3;exact hne (.inr h3)
  rw [<-hdev,<- hat]at q4 q5;obtain⟨u,hu⟩:=Int.eq_ofNat_of_zero_le (show 0<=uOf (s.x g) (s.y g) (YB s g) c.dev c.at_ by omega);rw [hu]at p4 p5 q4 q5;exact hap rfl u ⟨by omega,p5⟩ ⟨by omega,q5⟩
 ·left;rcases Nat.lt_or_gt_of_ne hgg with hlt|hlt
  ·have:=Jr h g' g hlt (by omega);omega
  ·have:=Jr h g g' hlt (by omega);omega
theorem Zij{s:ZO}{secs:Int}(h:ZT s secs){grp:Nat}(hg:grp<s.len){at_ size:Nat}(hs:1<=size/\size<=4)(hin:(at_:Int)+Xt (s.x grp) (s.y grp) size<=JH (s.x grp) (s.y grp) secs){k:Nat}{c:YG}(e:(Zz s grp at_ size)[k]?=some c):c.at_<secs:=by
 obtain⟨p1,p2,p3,p4,p5,_⟩:=Xl h hg hs e;obtain⟨w1,w2,w3⟩:=Yk h hg;unfold uOf at p5;unfold JH at hin;rcases w3 with hx|⟨hx,h3⟩
 ·rw [if_pos hx]at p5;rw [if_neg (by omega)]at hin;omega
 ·rw [if_neg (by omega)]at p5;rw [if_pos hx]at hin
  false_or_by_contra
  have:(secs-16)*s.y grp<=(c.at_-16)*s.y grp:=Int.mul_le_mul_of_nonneg_right (by omega) (by omega);omega
theorem JX{s:ZO}{secs:Int}(h:ZT s secs){grp:Nat}(hg:grp<s.len){at_ size:Nat}(hs:1<=size/\size<=4):size<=(Zz s grp at_ size).length/\(Zz s grp at_ size).length<=32:=by
 obtain⟨w1,w2,w3⟩:=Yk h hg;obtain⟨wd,hwd⟩:=Int.eq_ofNat_of_zero_le (show 0<=s.y grp by omega);unfold Zz;simp only [Int.toNat_natCast,hwd];rcases w3 with hx|⟨hx,h3⟩
 ·rw [if_pos hx];simp only [List.length_map,List.length_range];have h1:=Nat.mul_le_mul (show wd<=8 by omega) hs.2;have h2:=Nat.mul_le_mul (show 1<=wd by omega) (Nat.le_refl size);omega
 ·rw [if_neg (by omega),ZaZ _ _ _ (by omega) _ hs.2];have h5:(size+wd-2)/(wd-1)<=size+wd-2:=Nat.div_le_self _ _;generalize (size+wd-2)/(wd-1)=q at *
  omega
abbrev Run:=Nat × Nat
def Vl(l:List Run)(x:Nat):Prop:=∃ r∈l,r.1<=x/\x<r.1+r.2
structure Y3(z:Nat)(l:List Run):Prop where
 pw:l.Pairwise λ a b=>a.1+a.2<=b.1
 pos:∀ r∈l,0<r.2/\r.1+r.2<=z
def Z3(l:List Run)(at_:Nat):Nat:=l.findIdx λ r=>decide (at_<r.1+r.2)
theorem qV(l:List Run)(at_:Nat):Z3 l at_<=l.length:=List.findIdx_le_length
theorem jJ{l:List Run}{at_:Nat}:∀ r∈l.take (Z3 l at_),r.1+r.2<=at_:=by
 intro r hr;obtain⟨j,hj,e⟩:=List.mem_iff_getElem.1 hr;have hj1:j<Z3 l at_:=by simp at hj;omega
 have:=List.not_of_lt_findIdx hj1;rw [List.getElem_take]at e;rw [e]at this;simpa using this
def Qb(out:List Run)(r:Run):List Run:=match out.getLast? with
 |some q=>if q.1+q.2=r.1 then out.dropLast++[(q.1,q.2+r.2)]else if 0<r.2 then out++[r]else out
 |none=>if 0<r.2 then out++[r]else out
def QK(l:List Run):List Run:=l.foldl Qb []
theorem Zge{z:Nat}{out:List Run}{r:Run}(h:Y3 z out)(hr:0<r.2/\r.1+r.2<=z)(ho:∀ q∈out,q.1+q.2<=r.1):Y3 z (Qb out r)/\(∀ x,Vl (Qb out r) x↔Vl out x\/(r.1<=x/\x<r.1+r.2))/\(∀ q∈Qb out r,q.1+q.2<=r.1+r.2)/\(Qb out r).length<=out.length+1:=by
 have app:Y3 z (out++[r])/\(∀ x,Vl (out++[r]) x↔Vl out x\/(r.1<=x/\x<r.1+r.2))/\(∀ q∈out++[r],q.1+q.2<=r.1+r.2)/\(out++[r]).length<=out.length+1:=by
  refine⟨⟨List.pairwise_append.2 ⟨h.pw,List.pairwise_singleton ..,λ a ha b hb=>by rw [List.mem_singleton.1 hb];exact ho a ha⟩,λ q hq=>?_⟩,λ x=>?_,λ q hq=>?_,by simp⟩
  ·rcases List.mem_append.1 hq with hq|hq
   ·exact h.pos q hq
   ·rw [List.mem_singleton.1 hq];exact hr
  ·simp [Vl,or_and_right,exists_or]
  ·rcases List.mem_append.1 hq with hq|hq
   ·have:=ho q hq;omega
   ·rw [List.mem_singleton.1 hq];exact Nat.le_refl _
 unfold Qb;rw [if_pos hr.1];split
 ·rename_i q hq;split
  ·rename_i e;obtain⟨o',rfl⟩:=List.getLast?_eq_some_iff.1 hq;rw [List.dropLast_concat];have h1:=List.pairwise_append.1 h.pw;have hqp:=h.pos q (by simp);refine⟨⟨List.pairwise_append.2 ⟨h1.1,List.pairwise_singleton ..,λ a ha b hb=>?_⟩,λ p hp=>?_⟩,λ x=>?_,λ p hp=>?_,by simp⟩
   ·rw [List.mem_singleton.1 hb];exact h1.2.2 a ha q (by simp)
   ·rcases List.mem_append.1 hp with hp|hp
    ·exact h.pos p (by simp [hp])
    ·rw [List.mem_singleton.1 hp];dsimp only;omega
   ·constructor
    ·rintro⟨p,hp,hx⟩;rcases List.mem_append.1 hp with hp|hp
     ·exact .inl ⟨p,by simp [hp],hx⟩
     ·rw [List.mem_singleton.1 hp]at hx;dsimp only at hx
      by_cases hx2:x<q.1+q.2
      ·exact .inl ⟨q,by simp,hx.1,hx2⟩
      ·exact .inr (by omega)
    ·rintro(⟨p,hp,hx⟩|hx)
     ·rcases List.mem_append.1 hp with hp|hp
      ·exact⟨p,by simp [hp],hx⟩
      ·rw [List.mem_singleton.1 hp]at hx;exact⟨(q.1,q.2+r.2),by simp,by dsimp only;omega⟩
     ·exact⟨(q.1,q.2+r.2),by simp,by dsimp only;omega⟩
   ·rcases List.mem_append.1 hp with hp|hp
    ·have:=ho p (by simp [hp]);omega
    ·rw [List.mem_singleton.1 hp];dsimp only;omega
  ·exact app
 ·exact app
theorem ZaB{z:Nat}{l:List Run}(h:Y3 z l):Y3 z (QK l)/\(∀ x,Vl (QK l) x↔Vl l x)/\(QK l).length<=l.length:=by
 have key:∀(l:List Run)(out:List Run),Y3 z l->Y3 z out->(∀ q∈out,∀ r∈l,q.1+q.2<=r.1)->Y3 z (l.foldl Qb out)/\(∀ x,Vl (l.foldl Qb out) x↔Vl out x\/Vl l x)/\(l.foldl Qb out).length<=out.length+l.length:=by
  intro l
  induction l with
  |nil=>intro out _ h2 _;exact⟨h2,λ x=>by simp [Vl],by simp⟩
  |cons r l ih =>
   intro out h1 h2 h3;have hp:=List.pairwise_cons.1 h1.pw;obtain⟨j1,j2,j3,j4⟩:=Zge h2 (h1.pos r (by simp)) λ q hq=>h3 q hq r (by simp)
   obtain⟨k1,k2,k3⟩:=ih (Qb out r) ⟨hp.2,λ q hq=>h1.pos q (by simp [hq])⟩ j1 λ q hq p hp'=>Nat.le_trans (j3 q hq) (hp.1 p hp')
   refine⟨k1,λ x=>?_,by simp only [List.foldl_cons,List.length_cons];omega⟩;rw [List.foldl_cons,k2 x,j2 x];simp only [Vl,List.mem_cons];constructor
   ·rintro((h|h)|⟨p,hp,hx⟩)
    ·exact .inl h
    ·exact .inr ⟨r,.inl rfl,h⟩
    ·exact .inr ⟨p,.inr hp,hx⟩
   ·rintro(h|⟨p,rfl|hp,hx⟩)
    ·exact .inl (.inl h)
    ·exact .inl (.inr hx)
    ·exact .inr ⟨p,hp,hx⟩
 obtain⟨k1,k2,k3⟩:=key l [] h ⟨List.Pairwise.nil,λ r hr=>by cases hr⟩ λ q hq=>by cases hq
 exact⟨k1,λ x=>by rw [QK,k2 x];simp [Vl],by simpa [QK]using k3⟩
def yP(l:List Run)(at_ n:Nat):List Run:=l.take (Z3 l at_)++([(at_,n)]++l.drop (Z3 l at_))
theorem Zc4{z:Nat}{l:List Run}{at_ n:Nat}(h:Y3 z l)(hn:0<n)(hz:at_+n<=z)(hf:∀ r,l[Z3 l at_]?=some r->at_+n<=r.1):Y3 z (yP l at_ n)/\(∀ x,Vl (yP l at_ n) x↔Vl l x\/(at_<=x/\x<at_+n))/\(yP l at_ n).length=l.length+1:=by
 have e:=List.take_append_drop (Z3 l at_) l;have hp:(l.take (Z3 l at_)++l.drop (Z3 l at_)).Pairwise λ a b=>a.1+a.2<=b.1:=by rw [e];exact h.pw
 obtain⟨p1,p2,p3⟩:=List.pairwise_append.1 hp
 have hd:∀ r∈l.drop (Z3 l at_),at_+n<=r.1:=by
  intro r hr
  by_cases hlt:Z3 l at_<l.length
  ·have h0:=hf _ (List.getElem?_eq_getElem hlt);rw [List.drop_eq_getElem_cons hlt]at hr p2;rcases List.mem_cons.1 hr with rfl|hr
   ·exact h0
   ·have:=(List.pairwise_cons.1 p2).1 r hr;omega
  ·rw [List.drop_eq_nil_of_le (by omega)]at hr;cases hr
 refine⟨⟨?_,λ r hr=>?_⟩,λ x=>?_,?_⟩
 ·refine List.pairwise_append.2 ⟨p1,List.pairwise_cons.2 ⟨λ r hr=>hd r hr,p2⟩,λ a ha b hb=>?_⟩;rcases List.mem_cons.1 hb with rfl|hb
  ·exact jJ a ha
  ·exact p3 a ha b hb
 ·rcases List.mem_append.1 hr with hr|hr
  ·exact h.pos r (List.mem_of_mem_take hr)
  ·rcases List.mem_cons.1 hr with rfl|hr
   ·exact⟨hn,hz⟩
   ·exact h.pos r (List.mem_of_mem_drop hr)
 ·have:Vl l x↔Vl (l.take (Z3 l at_)++l.drop (Z3 l at_)) x:=by rw [e]
  rw [this];simp only [Vl,yP,List.mem_append,List.mem_singleton];constructor
  ·rintro⟨r,h|rfl|h,hx⟩
   ·exact .inl ⟨r,.inl h,hx⟩
   ·exact .inr hx
   ·exact .inl ⟨r,.inr h,hx⟩
  ·rintro(⟨r,h|h,hx⟩|hx)
   ·exact⟨r,.inl h,hx⟩
   ·exact⟨r,.inr (.inr h),hx⟩
   ·exact⟨_,.inr (.inl rfl),hx⟩
 ·have:=congrArg List.length e;simp only [List.length_append]at this;simp [yP];omega
def qQ(n z:Nat):List Run->Nat->Option Nat
 | [],at_=>if at_+n<=z then some at_ else none
 |r::l,at_=>if at_+n<=r.1 then some at_ else qQ n z l (max at_ (r.1+r.2))
def Up(n z:Nat)(l:List Run)(from_:Nat):Option Nat:=qQ n z (l.drop (Z3 l from_)) from_
theorem ZdB{n z:Nat}:∀(l:List Run)(at_ a:Nat),Y3 z l->qQ n z l at_=some a->at_<=a/\(a+n<=z\/l≠[])/\(∀ r∈l,r.1+r.2<=a\/a+n<=r.1)
 | [],at_,a,_,e=>by
  unfold qQ at e;split at e
  ·cases e;exact⟨Nat.le_refl _,.inl (by assumption),λ r hr=>by cases hr⟩
  ·cases e
 |r::l,at_,a,h,e=>by
  have hp:=List.pairwise_cons.1 h.pw;unfold qQ at e;split at e
  ·rename_i h1;cases e;refine⟨Nat.le_refl _,.inr (by simp),λ q hq=>.inr ?_⟩;rcases List.mem_cons.1 hq with rfl|hq
   ·exact h1
   ·have:=hp.1 q hq;omega
  ·obtain⟨k1,_,k3⟩:=ZdB l _ a ⟨hp.2,λ q hq=>h.pos q (by simp [hq])⟩ e;refine⟨by omega,.inr (by simp),λ q hq=>?_⟩;rcases List.mem_cons.1 hq with rfl|hq
   ·exact .inl (by omega)
   ·exact k3 q hq
theorem Zdn{n z:Nat}:∀(l:List Run)(at_ a:Nat),Y3 z l->qQ n z l at_=some a->a+n<=z
 | [],at_,a,_,e=>by
  unfold qQ at e;split at e
  ·cases e;assumption
  ·cases e
 |r::l,at_,a,h,e=>by
  unfold qQ at e;split at e
  ·cases e;have:=h.pos r (by simp);omega
  ·exact Zdn l _ a ⟨(List.pairwise_cons.1 h.pw).2,λ q hq=>h.pos q (by simp [hq])⟩ e
theorem ZdV{n z:Nat}{l:List Run}{from_ a:Nat}(h:Y3 z l)(e:Up n z l from_=some a):from_<=a/\a+n<=z/\(∀ r∈l,r.1+r.2<=a\/a+n<=r.1):=by
 have hd:Y3 z (l.drop (Z3 l from_)):=⟨h.pw.sublist (List.drop_sublist _ _),λ r hr=>h.pos r (List.mem_of_mem_drop hr)⟩
 obtain⟨k1,_,k3⟩:=ZdB _ _ _ hd e;refine⟨k1,Zdn _ _ _ hd e,λ r hr=>?_⟩;rw [<-List.take_append_drop (Z3 l from_) l]at hr;rcases List.mem_append.1 hr with hr|hr
 ·have:=jJ r hr;exact .inl (by omega)
 ·exact k3 r hr
theorem Vb{n:Nat}{l:List Run}{a:Nat}(h:∀ r∈l,r.1+r.2<=a\/a+n<=r.1)(r:Run)(e:l[Z3 l a]?=some r):a+n<=r.1:=by
 obtain⟨hlt,e2⟩:=List.getElem?_eq_some_iff.1 e
 have h1:a<r.1+r.2:=by
  have h3:l[List.findIdx (λ r:Run=>decide (a<r.1+r.2)) l]'hlt=r:=e2;have h4:=List.findIdx_getElem (xs:=l) (p:=λ r:Run=>decide (a<r.1+r.2)) (w:=hlt);rw [h3]at h4;simpa using h4
 rcases h r (List.mem_of_getElem? e)with h2|h2
 ·omega
 ·exact h2
end Go.Proofs.YtlfjdjndhcmliaaGreatDoor
namespace Go.Proofs.YtlfjdjndhcmliaaGreatDoor
open Go.RowKit Go.Sort
def qg(h1 h:Hl):Prop:=∀ n o,h1 n=some o->h n=some o
def J3(h1 h2:Hl):Prop:=∀ n,h1 n=none\/h2 n=none
theorem qg.refl(h:Hl):qg h h:=λ _ _ e=>e
theorem qg.trans{a b c:Hl}(s:qg a b)(t:qg b c):qg a c:=λ n o e=>t n o (s n o e)
theorem J3.symm{a b:Hl}(s:J3 a b):J3 b a:=λ n=>(s n).symm
theorem J3.sub{a b c:Hl}(s:J3 a b)(t:qg c b):J3 a c:=λ n=>by
 rcases s n with h|h
 ·exact .inl h
 ·right;cases e:c n with
  |none=>rfl
  |some o=>rw [t n o e]at h;cases h
theorem Has.sub{W:World}{h h1:Hl}(i:Has W h)(s:qg h1 h):Has W h1:=⟨λ n o e=>i.get n o (s n o e)⟩
theorem Xz.wide{W w':World}{h h0:Hl}(m:Xz h0 W w')(s:qg h0 h):Xz h W w' :=
 ⟨m.os,m.tape,m.output,m.size,λ k hk e=>m.block k hk (by
  cases e0:h0 k with
  |none=>rfl
  |some o=>rw [s k o e0]at e;cases e)⟩
theorem qg.none{h0 h:Hl}(s:qg h0 h){n:Nat}(e:h n=none):h0 n=none:=by
 cases e0:h0 n with
 |none=>rfl
 |some o=>rw [s n o e0]at e;cases e
theorem Zg.frame{W w':World}{h h0:Hl}{P:Hl->Prop}(hw:Has W h)(s:qg h0 h)(t:Zg W h0 P w') :
  Zg W h (λ h'=>∃ h1,P h1/\qg h1 h'/\∀ hk,qg hk h->J3 hk h0->qg hk h'/\J3 hk h1) w':=by
 obtain⟨m,h1,i,x,p⟩:=t;refine⟨m.wide s,λ n=>if n<W.heap.size/\h0 n=none then h n else h1 n,⟨λ n o e=>?_⟩,λ n hn e=>?_,h1,p,λ n o e=>?_,λ hk hs ha=>⟨λ n o e=>?_,λ n=>?_⟩⟩
 ·by_cases hc:n<W.heap.size/\h0 n=none
  ·simp only [if_pos hc]at e;rw [m.block n hc.1 hc.2];exact hw.get n o e
  ·simp only [if_neg hc]at e;exact i.get n o e
 ·by_cases hc:n<W.heap.size/\h0 n=none
  ·simp only [if_pos hc];exact e
  ·exact absurd ⟨hn,s.none e⟩ hc
 ·refine(if_neg ?_).trans e;rintro⟨h2,h3⟩;rw [x n h2 h3]at e;cases e
 ·have hl:=hw.lt (hs n o e)
  have h0n:h0 n=none:=by
   rcases ha n with h|h
   ·rw [h]at e;cases e
   ·exact h
  exact(if_pos ⟨hl,h0n⟩).trans (hs n o e)
 ·cases e:hk n with
  |none=>exact .inl rfl
  |some o =>
   right;have hl:=hw.lt (hs n o e);rcases ha n with h|h
   ·rw [h]at e;cases e
   ·exact x n hl h
theorem Zg.mono{W w':World}{h:Hl}{P Q:Hl->Prop}(t:Zg W h P w')(k:∀ h',P h'->Q h'):Zg W h Q w':=by
 obtain⟨m,h1,i,x,p⟩:=t;exact⟨m,h1,i,x,k _ p⟩
theorem Zg.gr{W w':World}{h:Hl}{P:Hl->Prop}(t:Zg W h P w')(g:Gr):Zg W h P (gr w' g):=by
 obtain⟨m,h1,i,x,p⟩:=t;exact⟨m.gr g,h1,ii,x,p⟩
theorem Zg.same{W:World}{h:Hl}{P:Hl->Prop}(i:Has W h)(p:P h):Zg W h P W:=⟨Xz.refl _ _,h,i,λ _ _ e=>e,p⟩
theorem Zg.below{W w':World}{h:Hl}{P:Hl->Prop}(i:Has W h)(p:P h)(b:Below W.heap.size W w'):Zg W h P w':=by
 obtain⟨g,rfl⟩:=Zf b;exact(Zg.same i p).gr g
abbrev SP:=Hl->Prop
def star:List SP->SP
 | [],_=>True
 |p::l,h=>∃ h1 h2,p h1/\star l h2/\qg h1 h/\qg h2 h/\J3 h1 h2
theorem star.sub:∀ {l:List SP} {h h':Hl},star l h->qg h h'->star l h'
 | [],_,_,_,_=>trivial
 |_::_,_,_,⟨h1,h2,a,b,c,d,e⟩,s=>⟨h1,h2,a,b,c.trans s,d.trans s,e⟩
theorem star.focus:∀ {l:List SP} {h:Hl} {i:Nat} {p:SP},star l h->l[i]?=some p->∃ h0,p h0/\qg h0 h /\
  ∀(q:SP)(h1 h':Hl),q h1->qg h1 h'->(∀ hk,qg hk h->J3 hk h0->qg hk h'/\J3 hk h1)->star (l.set i q) h'
 | [],_,_,_,_,e=>by simp at e
 |a::l,h,0,p,⟨h1,h2,pa,pl,s1,s2,ap⟩,e=>by
  have e:a=p:=by simpa using e
  subst e;refine⟨h1,pa,s1,λ q k h' hq hs f=>?_⟩;obtain⟨f1,f2⟩:=f h2 s2 ap.symm;exact⟨k,h2,hq,pl,hs,f1,f2.symm⟩
 |a::l,h,i+1,p,⟨h1,h2,pa,pl,s1,s2,ap⟩,e=>by
  have e:l[i]?=some p:=by simpa using e
  obtain⟨h0,hp,hs,f⟩:=pl.focus e;refine⟨h0,hp,hs.trans s2,λ q k h' hq hk g=>?_⟩;obtain⟨g1,g2⟩:=g h1 s1 (ap.sub hs);refine⟨h1,λ n=>if h1 n=none then h' n else none,pa,f q k _ hq (λ n o e=>?_) (λ hk s ak=>?_),g1,λ n o e=>?_,λ n=>?_⟩
  ·have:h1 n=none:=by rcases g2 n with h|h;exact h;rw [h]at e;cases e
   simp only [if_pos this];exact hk n o e
  ·obtain⟨k1,k2⟩:=g hk (s.trans s2) ak;refine⟨λ n o e=>?_,k2⟩
   have:h1 n=none:=by
    rcases ap n with h|h
    ·exact h
    ·rw [s n o e]at h;cases h
   simp only [if_pos this];exact k1 n o e
  ·by_cases hh:h1 n=none
   ·simp only [if_pos hh]at e;exact e
   ·simp only [if_neg hh]at e;cases e
  ·by_cases hh:h1 n=none
   ·exact .inl hh
   ·right;simp only [if_neg hh]
theorem star.get{l:List SP}{h:Hl}{i:Nat}{p:SP}(s:star l h)(e:l[i]?=some p):∃ h0,p h0/\qg h0 h:=by
 obtain⟨h0,a,b,_⟩:=s.focus e;exact⟨h0,a,b⟩
theorem star.map:∀ {l:List SP} {h:Hl} {i:Nat} {p q:SP},star l h->l[i]?=some p->(∀ h,p h->q h)->star (l.set i q) h:=λ s e f=>by
 obtain⟨h0,a,b,c⟩:=s.focus e;exact c _ h0 _ (f _ a) b λ hk h1 h2=>⟨h1,h2⟩
theorem star.ex{α:Type}{l:List SP}{h:Hl}{i:Nat}{q:α->SP}(s:star (l.set i λ h=>∃ x,q x h) h)(hi:i<l.length):∃ x,star (l.set i (q x)) h:=by
 obtain⟨h0,⟨x,a⟩,b,c⟩:=s.focus (i:=i) (p:=λ h=>∃ x,q x h) (by simp [hi]);refine⟨x,?_⟩;have:=c (q x) h0 h a b λ hk h1 h2=>⟨h1,h2⟩
 simpa using this
theorem star.pure{r:Prop}{l:List SP}{h:Hl}{i:Nat}{q:SP}(s:star (l.set i λ h=>r/\q h) h)(hi:i<l.length):r/\star (l.set i q) h:=by
 obtain⟨h0,⟨x,a⟩,b,c⟩:=s.focus (i:=i) (p:=λ h=>r/\q h) (by simp [hi]);refine⟨x,?_⟩;have:=c q h0 h a b λ hk h1 h2=>⟨h1,h2⟩
 simpa using this
theorem Zg.focus{W w':World}{h:Hl}{l:List SP}{i:Nat}{p q:SP}(hw:Has W h)(s:star l h)(e:l[i]?=some p)(k:∀ h0,p h0->Has W h0->Zg W h0 q w'):Zg W h (star (l.set i q)) w':=by
 obtain⟨h0,a,b,c⟩:=s.focus e;refine((k h0 a (hw.sub b)).frame hw b).mono λ h' ⟨h1,q1,q2,q3⟩=>?_
 exact c q h1 h' q1 q2 q3
def Tu(f:FuncId)(args:Array Value)(p:SP)(q:Value->SP):Prop:=∀ W h,Has W h->p h->Calls Tryz.prog f args W λ e w'=>∃ v,e=.returned v/\Zg W h (q v) w'
theorem Tu.mono{f:FuncId}{args:Array Value}{p p':SP}{q q':Value->SP}(t:Tu f args p q)(hp:∀ h,p' h->p h)(hq:∀ v h,q v h->q' v h):Tu f args p' q' :=
 λ W h i s=>(t W h i (hp h s)).mono λ _ _ ⟨v,e,t⟩=>⟨v,e,t.mono λ h'=>hq v h'⟩
theorem Tu.at_{f:FuncId}{args:Array Value}{p:SP}{q:Value->SP}(t:Tu f args p q){l:List SP}{i:Nat}(e:l[i]?=some p):Tu f args (star l) λ v=>star (l.set i (q v)):=by
 intro W h hw s;obtain⟨h0,a,b,c⟩:=s.focus e;refine(t W h0 (hw.sub b) a).mono λ _ _ ⟨v,ev,t⟩=>⟨v,ev,(t.frame hw b).mono λ h' ⟨h1,q1,q2,q3⟩=>?_⟩
 exact c (q v) h1 h' q1 q2 q3
theorem Tu.go{f:FuncId}{args:Array Value}{p:SP}{q:Value->SP}{W:World}{h:Hl}{R:Ending->World->Prop}(t:Tu f args p q)(s:p h)(k:∀ v c h',jE c h W.heap.size h'->Ext h' h W.heap.size->q v h'->R (.returned v) (md W h c))[i:Has W h]:Calls Tryz.prog f args W R :=
 (t W h i s).mono λ _ _ ⟨v,e,t⟩=>by
  obtain⟨c,h',rfl,a,b,q⟩:=t.get;rw [e];exact k v c h' a b q
class In(p:SP)(W:World):Prop where
 ex:∃ h0,p h0/\Has W h0
theorem In.of_star{l:List SP}{p:SP}{W:World}{h:Hl}(i:Has W h)(s:star l h){k:Nat}(e:l[k]?=some p):In p W:=by
 obtain⟨h0,a,b⟩:=s.get e;exact⟨h0,a,i.sub b⟩
instance ZnJ(p:SP)(W:World)(o:Obj)[k:In p W]:In p (W.alloc o):=by obtain⟨h0,a,b⟩:=k.ex;exact⟨h0,a,ii⟩
instance ZrZ(p:SP)(W:World)(g:Gr)[k:In p W]:In p (gr W g):=by obtain⟨h0,a,b⟩:=k.ex;exact⟨h0,a,ii⟩
class HAt(h:Hl)(n:Nat)(cs:outParam (Array Value)):Prop where
 get:∃ t,h n=some (.cells cs t)
class Zh(W:World)(n:Nat)(cs:outParam (Array Value)):Prop where
 get:∃ t,W.heap[n]?=some (.cells cs t)
instance Zmp(W:World)(h:Hl)(n:Nat)(cs:Array Value)[i:Has W h][k:HAt h n cs]:Zh W n cs:=by
 obtain⟨t,e⟩:=k.get;exact⟨t,i.get n _ e⟩
theorem Zh.old{W:World}{n:Nat}{cs:Array Value}(k:Zh W n cs):Yc n W:=by
 obtain⟨t,e⟩:=k.get;exact⟨(Array.getElem?_eq_some_iff.1 e).1⟩
instance ZlE(W:World)(n:Nat)(cs:Array Value)(g:Gr)[k:Zh W n cs]:Zh (gr W g) n cs:=by
 have:=k.old.h;obtain⟨t,e⟩:=k.get;exact⟨t,by rw [XQ _ _ this];exact e⟩
instance ZjR(W:World)(n:Nat)(cs:Array Value)(o:Obj)[k:Zh W n cs]:Zh (W.alloc o) n cs:=by
 have:=k.old.h;obtain⟨t,e⟩:=k.get;exact⟨t,by rw [Below.heap_alloc _ _ _ this];exact e⟩
instance Zkr(W:World)(n:Nat)(cs:Array Value)[k:Zh W n cs]:Zh W.drew n cs:=⟨k.get⟩
@[go_sem] theorem YO (W:World) (n i:Nat) (cs:Array Value) [k:Zh W n cs]:W.cell? ⟨n,i,none⟩=cs[i]?:=by
 obtain⟨t,e⟩:=k.get;simp [World.cell?,e]
@[go_sem] theorem ZlX (W:World) (n i:Nat) (cs:Array Value) [k:Zh W n cs]:W.frozen? ⟨n,i,none⟩=false:=by
 obtain⟨t,e⟩:=k.get;simp [World.frozen?,e]
class Tn(W:World)(h:Hl)(w:World)(h':outParam Hl):Prop where
 m:Xz h W w
 i:Has w h'
 x:∀ n,n<W.heap.size->h n=none->h' n=none
instance(priority:=low) ZoH(W:World)(h:Hl)[i:Has W h]:Tn W h W h:=⟨Xz.refl _ _,i,λ _ _ e=>e⟩
instance ZnD(W:World)(h:Hl)(w:World)(h':Hl)(o:Obj)[t:Tn W h w h']:Tn W h (w.alloc o) h':=by have:=t.i;exact⟨t.m.alloc o,ii,t.x⟩
instance ZoO(W:World)(h:Hl)(w:World)(h':Hl)(g:Gr)[t:Tn W h w h']:Tn W h (gr w g) h':=by have:=t.i;exact⟨t.m.gr g,ii,t.x⟩
instance Zpp(W:World)(h:Hl)(w:World)(h':Hl)[t:Tn W h w h']:Tn W h w.drew h':=⟨t.m.drew,⟨t.i.get⟩,t.x⟩
instance Zro(W:World)(h:Hl)(w:World)(h1 h2:Hl)(c:World)(k:Nat)[t:Tn W h w h1][a:jE c h1 k h2][z:ZX w k]:Tn W h (md w h1 c) h2:=by
 have:=t.i;refine⟨t.m.trans (Zh7 w h1 c) t.x,ii,λ n hn e=>a.ext.out n ?_ (t.x n hn e)⟩;have:=t.m.size;rw [<-z.h];omega
theorem Zg.of{W:World}{h:Hl}{w:World}{h':Hl}{P:Hl->Prop}[t:Tn W h w h'](p:P h'):Zg W h P w:=⟨t.m,h',t.i,t.x,p⟩
def Hl.put(h:Hl)(n:Nat)(o:Obj):Hl:=λ k=>if k=n then some o else h k
theorem Hl.put_same(h:Hl)(n:Nat)(o:Obj):h.put n o n=some o:=if_pos rfl
theorem Hl.put_other(h:Hl){n k:Nat}(o:Obj)(e:k≠n):h.put n o k=h k:=if_neg e
theorem heap_setCell{w:World}{n k:Nat}{v:Value}{cs:Array Value}{t:TypeId}(e:w.heap[n]?=some (.cells cs t)):(w.setCell ⟨n,k,none⟩ v).heap[n]?=some (.cells (cs.setIfInBounds k v) t):=by
 simp [World.setCell,Array.getElem?_modify,e]
theorem Zly(w:World)(h:Hl)(n k:Nat)(v:Value)(cs:Array Value)(t:TypeId)[i:Has w h](e:h n=some (.cells cs t)) :
  ∃ c,w.setCell ⟨n,k,none⟩ v=md w h c/\jE c h w.heap.size (h.put n (.cells (cs.setIfInBounds k v) t))/\Ext (h.put n (.cells (cs.setIfInBounds k v) t)) h w.heap.size:=by
 have t1:Zg w h (λ h'=>h'=h.put n (.cells (cs.setIfInBounds k v) t)) (w.setCell ⟨n,k,none⟩ v):=by
  refine⟨(Xz.refl h w).setCell (.inr (by rw [e];simp)) v,_,⟨λ m o e2=>?_⟩,λ m _ e2=>?_,rfl⟩
  ·by_cases hm:m=n
   ·subst hm;rw [Hl.put_same]at e2;cases e2;exact heap_setCell (i.get _ _ e)
   ·rw [Hl.put_other _ _ hm]at e2;rw [Below.heap_setCell _ _ _ _ (λ e3:m=n=>hm e3)];exact i.get m o e2
  ·by_cases hm:m=n
   ·subst hm;rw [e]at e2;cases e2
   ·rw [Hl.put_other _ _ hm];exact e2
 obtain⟨c,h',a,b,d,rfl⟩:=t1.get;exact⟨c,a,b,d⟩
end Go.Proofs.YtlfjdjndhcmliaaGreatDoor
