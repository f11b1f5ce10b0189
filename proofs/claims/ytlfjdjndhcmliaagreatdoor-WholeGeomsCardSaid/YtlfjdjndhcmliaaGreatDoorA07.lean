/- WholeGeoms, part 7. -/
import Derived.Test.YtlfjdjndhcmliaaGreatDoorA06
import Derived.Test.YtlfjdjndhcmliaaGreatDoorA04
import Derived.Lib.OwnBridge
set_option maxRecDepth 100000
set_option maxHeartbeats 4000000
set_option linter.all false
namespace Go.Proofs.YtlfjdjndhcmliaaGreatDoor
open Go.RowKit Go.Sort
def colC (L:List Col):List (List Value):=L.map Col.cl
theorem colC_flat (L:List Col):(colC L).flatten=flatL L:=by simp [colC,flatL]
theorem colAt {ad:Option Addr} {n cap:Nat} {L:List Col} {W:World} (h:RdS 4 ad n cap (colC L) W) {k:Nat} {c:Col} (hk:L[k]?=some c):∃ b o,ad=some ⟨b,o,none⟩/\Old b W/\W.cell? ⟨b,o+k*4,none⟩=some (.int .i64 c.dev)/\W.cell? ⟨b,o+k*4+1,none⟩=some (.int .i64 c.at_)/\W.cell? ⟨b,o+k*4+2,none⟩=some (.bool c.par)/\W.cell? ⟨b,o+k*4+3,none⟩=some (.int .i64 c.row):=by
 obtain ⟨b,o,e,hb,hc⟩:=h.cells k c.cl (by simp [colC,hk])
 exact ⟨b,o,e,hb,hc 0 _ rfl,hc 1 _ rfl,hc 2 _ rfl,hc 3 _ rfl⟩
def natV (l:List Nat):List Value:=l.map λ k:Nat=>.int .i64 (k:Int)
theorem row_at (ad:Option Addr) (n cap:Nat) (L:List Col) (no:Int) (W:World) [h:RdS 4 ad n cap (colC L) W] (hn:n<=100) :
  Calls Tryz.prog 338 #[.slice ad n cap,.int .i64 no] W λ e w'=>∃ ad2 m cap2,e=.returned (.slice ad2 m cap2)/\m<=n/\OwnS 3 1 ad2 m cap2 (natV (rowI L no n)) w' W:=by
 have hlen:L.length=n:=by have:=h.len;simpa [colC] using this
 go_enter Tryz.func338,Tryz.ntmps338
 go_wp2_with fail
 go_loopw [5,10] (λ v i wr=>∃ (k:Nat) (ad2:Option Addr) (m cap2:Nat),k<=n/\m<=k/\i=.int .i64 k/\v=.slice ad2 m cap2/\OwnS 3 1 ad2 m cap2 (natV (rowI L no k)) wr W)
  (λ _ i _=>n - (intOf i).toNat)
 case atStart=>exact ⟨0,none,0,0,Nat.zero_le _,Nat.le_refl _,rfl,rfl,OwnS.nil _ _ _⟩
 case round =>
  obtain ⟨k,ad2,m,cap2,hk,hm,rfl,rfl,ho⟩:=hrel
  obtain ⟨g,rfl⟩:=ho.grw
  by_cases hlt:k < n
  ·obtain ⟨c,hc⟩:∃ c,L[k]?=some c:=⟨_,List.getElem?_eq_getElem (by omega)⟩
   obtain ⟨b,o,rfl,hb,c0,c1,c2,c3⟩:=colAt h hc
   have hs:rowI L no (k+1)=rowI L no k++(if (c.row == no) && !c.par then [k] else []):=by
    simp only [rowI,List.range_succ,List.filter_append]
    congr 1
    simp only [List.filter_cons,List.filter_nil,isRow,hc]
   have Hs:=Lib.hid hs
   have Hc:=Lib.hid hc
   clear hs hc
   by_cases hr:c.row=no
   ·cases hp:c.par
    all_goals
     rw [hp] at c2
     have hs:=Hs.out
     rw [hp] at hs
     simp [hr] at hs
     have Hs:=Lib.hid hs
     clear hs hp
     go_wp2_with (at_builtin;(with_reducible apply wpList_app1);(·exact rfl);(·exact rfl);(·exact ii);(·exact ii);(·exact ii);(·exact rfl);(·decide);(·omega);intro gA capA gW hOwn)
    ·exact ⟨⟨k+1,_,m+1,_,hlt,by omega,by go_num,rfl,by rw [Hs.out];simpa [natV] using hOwn⟩,by simp [intOf];omega⟩
    ·exact ⟨⟨k+1,_,m,_,hlt,by omega,by go_num,rfl,by rw [Hs.out];exact ii⟩,by simp [intOf];omega⟩
   ·have hr':(c.row == no)=false:=by simpa using hr
    have hs:=Hs.out
    rw [hr'] at hs
    simp at hs
    have Hs:=Lib.hid hs
    clear hs hr
    go_wp2_with fail
    exact ⟨⟨k+1,_,m,_,hlt,by omega,by go_num,rfl,by rw [Hs.out];exact ii⟩,by simp [intOf];omega⟩
  ·obtain rfl:n=k:=by omega
   go_wp2_with fail
   go_ret
   exact ⟨_,_,_,rfl,hm,ho⟩
theorem encode_at (s:Slc) (secs grp at_:Int) [k:Geo s secs] (W:World) [m:GM s W] (t:ByteArray) (z:Nat) (ht:t.size=64*z) (hz:1<=z/\z<=4) (hm:mayB s secs grp at_ z=true) (hl:(colL s grp at_ z).length<=32) (hl0:0 < (colL s grp at_ z).length) (hr:RowOk (colL s grp at_ z)) :
  Calls Tryz.prog 331 #[.agg #[.slice s.ad s.len s.cap,.int .i64 secs],.agg #[.int .i64 grp,.int .i64 at_],.string t] W λ e w' =>
   ∃ ad,e=.returned (.tuple #[.slice ad (colL s grp at_ z).length (colL s grp at_ z).length,.int .i64 0])/\OwnS 9 1 ad (colL s grp at_ z).length (colL s grp at_ z).length (strV (encL (colL s grp at_ z) (sects t z))) w' W:=by
 obtain ⟨hz1,hz2⟩:=hz
 have SA:=λ w=>sectors_at t z ht ⟨hz1,hz2⟩ w
 have OA:∀ w,GM s w->_:=λ w (_:GM s w)=>of_at s secs grp at_ z w
 have hm':=Lib.hid hm
 have hD0:sects t z≠[]:=λ e=>by have:=sects_len t z;rw [e] at this;simp at this;omega
 have hDz:=sects_size t z ht
 have hDl:=sects_len t z
 generalize hL:colL s grp at_ z=L at *
 generalize hn:L.length=n at *
 generalize hD:sects t z=D at *
 clear hm
 go_enter Tryz.func331,Tryz.ntmps331
 go_wp2_with fail
 refine (SA _).mono ?_
 rintro e w' ⟨ad1,cap1,rfl,o1⟩
 obtain ⟨g1,rfl⟩:=o1.grw
 dsimp only
 go_wp2_with fail
 refine (OA _ ii).mono ?_
 rintro e w' ⟨hy,hno⟩
 obtain ⟨ad2,cap2,rfl,o2⟩:=hy hm'.out
 clear hy hno
 have R1:RdS 1 ad1 z cap1 (strC D) w':=by obtain ⟨g,e⟩:=o2.grw;rw [e];haveI:=o1.rdS;infer_instance
 have R2:RdS 4 ad2 n cap2 (colC L) w':=OwnS.rd (W1:=_) (e:=370) (by rw [colC_flat];exact o2) (by simpa [colC] using hn) (by simp [colC,Col.cl])
 have hV:∃ g,w'=gr W g:=gr_of_below (by obtain ⟨g,rfl⟩:=o2.grw;(repeat' (first | (with_reducible exact Below.refl _ _) | (with_reducible refine belowGrU ?_ _) | (with_reducible refine belowAlloc ?_ _) | (with_reducible refine Below.setCell ?_ ?_ _) | (with_reducible refine Below.drew ?_) | (simp [go_sem];done) | (simp [go_sem];omega))))
 clear o1 o2 SA OA hL m
 dsimp only
 go_wp2_with ((with_reducible apply wpList_make1);(·exact rfl);(·exact rfl);(·omega);intro gM hMk)
 have hz0:tab n (e1 L D) (λ _=>⟨#[]⟩) 0=List.replicate n ⟨#[]⟩:=by rw [tab_zero];exact List.ext_getElem (by simp) (by simp)
 go_loopw [13,44] (λ v i wr=>∃ k:Nat,k<=n/\i=.int .i64 k/\v=.int .i64 (cntD L k)/\OwnS 9 1 (some ⟨w'.heap.size,0,none⟩) n n (strV (tab n (e1 L D) (λ _=>⟨#[]⟩) k)) wr w')
  (λ _ i _=>n - (intOf i).toNat)
 case atStart=>exact ⟨0,Nat.zero_le _,rfl,rfl,by rw [hz0];simpa [strV] using hMk⟩
 case round =>
  clear hMk
  obtain ⟨k,hk,rfl,rfl,ho⟩:=hrel
  have Q1:RdS 1 ad1 z cap1 (strC D) wr:=by obtain ⟨g,rfl⟩:=ho.grw;infer_instance
  have Q2:RdS 4 ad2 n cap2 (colC L) wr:=by obtain ⟨g,rfl⟩:=ho.grw;infer_instance
  by_cases hlt:k < n
  ·obtain ⟨c,hc⟩:∃ c,L[k]?=some c:=⟨_,List.getElem?_eq_getElem (by omega)⟩
   obtain ⟨b,o,rfl,hb,c0,c1,c2,c3⟩:=colAt Q2 hc
   have hcs:=cntD_succ hc
   have he:e1 L D k=if c.par then ⟨#[]⟩ else D.getD (cntD L k % D.length) ⟨#[]⟩:=by simp [e1,hc]
   have hcl:=cntD_le L k
   have hput:=ho.put k (.string (e1 L D k))
   have hset:(strV (tab n (e1 L D) (λ _=>⟨#[]⟩) k)).set k (.string (e1 L D k))=strV (tab n (e1 L D) (λ _=>⟨#[]⟩) (k+1)):=by rw [<-tab_set];exact List.map_set.symm
   rw [hset] at hput
   have hsame:c.par=true->tab n (e1 L D) (λ _=>⟨#[]⟩) (k+1)=tab n (e1 L D) (λ _=>⟨#[]⟩) k:=λ h=>tab_same λ _=>by simp [he,h]
   have ho':=Lib.hid ho
   obtain ⟨f1,f2,f3⟩:=ho.facts
   have hb0:=f1 k (.string ⟨#[]⟩) (by simp [strV,tab_get hlt])
   have hf0:=f2 k
   clear hc f1 f2 hset ho
   cases hp:c.par
   ·rw [hp] at c2 hcs he
    have hq:cntD L k % z < z:=Nat.mod_lt _ (by omega)
    obtain ⟨u,hu⟩:∃ u,D[cntD L k % z]?=some u:=⟨_,List.getElem?_eq_getElem (by omega)⟩
    obtain ⟨b1,o1,rfl,hb1,hd⟩:=Q1.cells (cntD L k % z) [.string u] (by simp [strC,hu])
    have d0:=hd 0 _ rfl
    rw [Nat.mul_one,Nat.add_zero] at d0
    have hrem:((cntD L k:Nat):Int).tmod (z:Int)=((cntD L k % z:Nat):Int):=rfl
    have he:e1 L D k=u:=by rw [he,hDl];simp [List.getD_eq_getElem?_getD,hu]
    rw [he] at hput
    generalize cntD L k % z=q at *
    clear hd hu he hsame
    have Hp:=Lib.hid hput
    have Hcs:=Lib.hid hcs
    clear hput hcs
    go_wp2_with fail
    haveI:=Hp.out
    exact ⟨⟨k+1,hlt,by go_num,by rw [Hcs.out];go_num,ii⟩,by simp [intOf];omega⟩
   ·rw [hp] at c2 hcs
    have hput:=ho'.out
    rw [<-hsame hp] at hput
    have Hp:=Lib.hid hput
    have Hcs:=Lib.hid hcs
    clear hput hcs hb0 hf0 he hsame
    go_wp2_with fail
    haveI:=Hp.out
    exact ⟨⟨k+1,hlt,by go_num,by rw [Hcs.out];rfl,ii⟩,by simp [intOf];omega⟩
  ·obtain rfl:n=k:=by omega
   have he12:tab n (e1 L D) (λ _=>⟨#[]⟩) n=tab n (e2 L D) (e1 L D) 0:=by rw [tab_all,tab_zero]
   rw [he12] at ho
   have Hcn:=cntD_le L n
   go_wp2_with fail
   clear he12
   go_loopw [67] (λ i wr=>∃ k:Nat,k<=n/\i=.int .i64 k/\OwnS 9 1 (some ⟨w'.heap.size,0,none⟩) n n (strV (tab n (e2 L D) (e1 L D) k)) wr w')
    (λ i _=>n - (intOf i).toNat)
   case atStart=>exact ⟨0,Nat.zero_le _,rfl,ho⟩
   case round =>
    clear ho
    obtain ⟨k,hk,rfl,ho⟩:=hrel
    have Q2:RdS 4 ad2 n cap2 (colC L) wr:=by obtain ⟨g,rfl⟩:=ho.grw;infer_instance
    by_cases hlt:k < n
    ·obtain ⟨c,hc⟩:∃ c,L[k]?=some c:=⟨_,List.getElem?_eq_getElem (by omega)⟩
     obtain ⟨b,o,hb2,hb,c0,c1,c2,c3⟩:=colAt Q2 hc
     subst hb2
     have he:e2 L D k=if c.par then makeS ((rowI L c.row n).map (e1 L D)) else e1 L D k:=by simp [e2,hc,hn]
     have hsame:c.par=false->tab n (e2 L D) (e1 L D) (k+1)=tab n (e2 L D) (e1 L D) k:=λ h=>tab_same λ _=>by simp [he,h]
     have hrow:c.par=true->rowI L c.row n≠[]/\∀ s∈(rowI L c.row n).map (e1 L D),s.size=64:=λ hp=>by
      obtain ⟨d,hd,hd1,hd2⟩:=hr c (List.mem_of_getElem? hc) hp
      obtain ⟨j,hj⟩:=List.getElem?_of_mem hd
      refine ⟨λ e=>?_,λ s hs=>?_⟩
      ·have h2:j∈rowI L c.row n:=hn ▸ rowI_mem.2 ⟨d,hj,hd2,hd1⟩
       rw [e] at h2;cases h2
      ·obtain ⟨i,hi,rfl⟩:=List.mem_map.1 hs
       rw [<-hn] at hi
       obtain ⟨d,h1,_,h3⟩:=rowI_mem.1 hi
       exact e1_size hD0 hDz h1 h3
     have ho':=Lib.hid ho
     clear hc ho
     cases hp:c.par
     ·rw [hp] at c2
      have h1:=ho'.out
      rw [<-hsame hp] at h1
      have Hp:=Lib.hid h1
      clear h1 he hsame hrow
      go_wp2_with fail
      haveI:=Hp.out
      exact ⟨⟨k+1,hlt,by go_num,ii⟩,by simp [intOf];omega⟩
     ·rw [hp] at c2 he
      obtain ⟨hr0,hr64⟩:=hrow hp
      have He:=Lib.hid (show e2 L D k=makeS ((rowI L c.row n).map (e1 L D)) by rw [he];rfl)
      clear hsame hrow he
      go_wp2_with fail
      refine (row_at _ n _ L _ _ (by omega)).mono ?_
      rintro e w2 ⟨adr,m,capr,rfl,hmn,o3⟩
      dsimp only
      obtain ⟨g3,e3⟩:=o3.grw
      haveI:=ho'.out
      have ho2:OwnS 9 1 (some ⟨w'.heap.size,0,none⟩) n n (strV (tab n (e2 L D) (e1 L D) k)) w2 w':=by rw [e3];infer_instance
      have hml:(rowI L c.row n).length=m:=by have:=o3.own.1;simpa [natV] using this
      have R3:RdS 1 adr m capr ((rowI L c.row n).map λ i:Nat=>[.int .i64 (i:Int)]) w2:=OwnS.rd (W1:=_) (e:=3) (by
       have e:((rowI L c.row n).map λ i:Nat=>[Value.int .i64 (i:Int)]).flatten=natV (rowI L c.row n):=by induction rowI L c.row n <;> simp_all [natV]
       rw [e];exact o3) (by simpa using hml) (by simp)
      have Q2:RdS 4 (some ⟨b,o,none⟩) n cap2 (colC L) w2:=by rw [e3];infer_instance
      have ho':=Lib.hid ho2
      have hrI:∀ i∈rowI L c.row n,i < n/\(tab n (e2 L D) (e1 L D) k)[i]?=some (e1 L D i):=λ i hi=>by
       rw [<-hn] at hi
       obtain ⟨d,h1,h2,h3⟩:=rowI_mem.1 hi
       have hin:=(List.getElem?_eq_some_iff.1 h1).1
       rw [hn] at hin
       exact ⟨hin,by rw [tab_get hin];simp [e2,h1,h3]⟩
      clear o3 e3 ho2 c0 c1 c2 c3
      generalize hI:rowI L c.row n=I at *
      go_wp2_with fail
      go_loopw [18,20,79] (λ v _ i wr=>∃ (j:Nat) (adp:Option Addr) (capp:Nat),j<=m/\i=.int .i64 j/\v=.slice adp j capp/\OwnS 9 1 adp j capp (strV ((I.take j).map (e1 L D))) wr w2)
       (λ _ _ i _=>m - (intOf i).toNat)
      case atStart=>exact ⟨0,none,0,Nat.zero_le _,rfl,rfl,OwnS.nil _ _ _⟩
      case round =>
       obtain ⟨j,adp,capp,hj,rfl,rfl,op⟩:=hrel
       obtain ⟨g4,rfl⟩:=op.grw
       by_cases hlj:j < m
       ·obtain ⟨i,hi⟩:∃ i,I[j]?=some i:=⟨_,List.getElem?_eq_getElem (by omega)⟩
        obtain ⟨hin,hti⟩:=hrI i (List.mem_of_getElem? hi)
        obtain ⟨b3,o3,rfl,hb3,hd3⟩:=R3.cells j [.int .i64 (i:Int)] (by simp [hi])
        have d0:=hd3 0 _ rfl
        rw [Nat.mul_one,Nat.add_zero] at d0
        haveI:=ho'.out
        obtain ⟨f1,f2,f3⟩:=ho'.out.facts
        have hb0:=f1 i (.string (e1 L D i)) (by simp [strV,hti])
        have Hi:=Lib.hid hi
        clear f1 f2 hd3 hi hti
        go_wp2_with (at_builtin;(with_reducible apply wpList_app1);(·exact rfl);(·exact rfl);(·exact ii);(·exact ii);(·exact ii);(·exact rfl);(·decide);(·omega);intro gA capA gW hOwn)
        refine ⟨⟨j+1,_,_,hlj,by go_num,rfl,?_⟩,by simp [intOf];omega⟩
        rw [List.take_add_one,Hi.out]
        simpa [strV] using hOwn
       ·obtain rfl:m=j:=by omega
        rw [List.take_of_length_le (by omega)] at op
        have hm0:0 < m:=by rw [<-hml];exact List.length_pos_iff.2 hr0
        have RP:=op.rdS
        have mk:∀ W':World,[RdS 1 adp m capp (strC (I.map (e1 L D))) W']->Fn 339 #[.slice adp m capp] W' (.tuple #[.string (makeS (I.map (e1 L D))),.int .i64 0]):=λ W' _=>make_fn adp m capp _ W' 64 (by omega) hm0 (by omega) hr64
        rw [<-He.out] at mk
        haveI:=ho'.out
        have ho2:OwnS 9 1 (some ⟨w'.heap.size,0,none⟩) n n (strV (tab n (e2 L D) (e1 L D) k)) (gr w2 g4) w':=ii
        generalize gr w2 g4=V at *
        obtain ⟨f1,f2,f3⟩:=ho2.facts
        have hb0:=f1 k (.string (e1 L D k)) (by simp [strV,tab_get hlt])
        have hf0:=f2 k
        have hput:=ho2.put k (.string (e2 L D k))
        have hset:(strV (tab n (e2 L D) (e1 L D) k)).set k (.string (e2 L D k))=strV (tab n (e2 L D) (e1 L D) (k+1)):=by rw [<-tab_set];exact List.map_set.symm
        rw [hset] at hput
        have Hp:=Lib.hid hput
        clear hput hset f1 f2 op ho2
        go_wp2_with (with_reducible refine Fn.go λ g=>?_)
        haveI:=Hp.out
        exact ⟨⟨k+1,hlt,by go_num,ii⟩,by simp [intOf];omega⟩
    ·obtain rfl:n=k:=by omega
     go_wp2_with fail
     go_ret2
     refine ⟨_,rfl,?_⟩
     rw [encL,hn,<- tab_all (z:=e1 L D)]
     exact ho.lower hV
def stay (p:Nat->Bool) (xs:List (List Value)):List (List Value):=((List.range xs.length).filter λ k=>!p k).map λ k=>xs[k]!
def stayTo (p:Nat->Bool) (xs:List (List Value)) (j:Nat):List (List Value):=((List.range j).filter λ k=>!p k).map λ k=>xs[k]!
theorem stayTo_succ (p:Nat->Bool) (xs:List (List Value)) (j:Nat):stayTo p xs (j+1)=stayTo p xs j++(if p j then [] else [xs[j]!]):=by
 simp only [stayTo,List.range_succ,List.filter_append,List.map_append]
 congr 1
 cases h:p j <;> simp [h]
theorem stayTo_len (p:Nat->Bool) (xs:List (List Value)) (j:Nat):(stayTo p xs j).length<=j:=by
 unfold stayTo
 rw [List.length_map]
 exact Nat.le_trans (List.length_filter_le ..) (by simp)
structure DelI (p:Nat->Bool) (xs:List (List Value)) (z j i:Nat) (L:List (List Value)):Prop where
 len:L.length=xs.length
 z:∀ x∈L,x.length=z
 one:∀ x∈L,∀ v∈x,v.oneCell'=true
 at_:i=(stayTo p xs j).length
 head:L.take i=stayTo p xs j
 tail:L.drop j=xs.drop j
theorem DelI.get {p:Nat->Bool} {xs L:List (List Value)} {z j i:Nat} (d:DelI p xs z j i L) (hj:j < xs.length):L[j]?=xs[j]?:=by
 have:=congrArg (λ l=>l[0]?) d.tail
 simpa using this
theorem DelI.skip {p:Nat->Bool} {xs L:List (List Value)} {z j i:Nat} (d:DelI p xs z j i L) (hp:p j=true):DelI p xs z (j+1) i L:=by
 refine ⟨d.len,d.z,d.one,?_,?_,?_⟩
 ·rw [stayTo_succ,if_pos hp,List.append_nil];exact d.at_
 ·rw [stayTo_succ,if_pos hp,List.append_nil];exact d.head
 ·have:=congrArg (List.drop 1) d.tail
  simpa [List.drop_drop,Nat.add_comm] using this
theorem DelI.keep {p:Nat->Bool} {xs L:List (List Value)} {z j i:Nat} (d:DelI p xs z j i L) (hj:j < xs.length) (hp:p j=false):DelI p xs z (j+1) (i+1) (L.set i xs[j]!):=by
 have hi:i<=j:=by rw [d.at_];exact stayTo_len ..
 have hl:=d.len
 have hm:xs[j]!∈L:=by
  have:=d.get hj
  rw [List.getElem?_eq_getElem hj] at this
  rw [List.getElem!_eq_getElem?_getD,List.getElem?_eq_getElem hj]
  exact List.mem_of_getElem? this
 refine ⟨by simp [hl],λ x hx=>?_,λ x hx=>?_,?_,?_,?_⟩
 ·rcases List.mem_or_eq_of_mem_set hx with h | h
  ·exact d.z x h
  ·rw [h];exact d.z _ hm
 ·rcases List.mem_or_eq_of_mem_set hx with h | h
  ·exact d.one x h
  ·rw [h];exact d.one _ hm
 ·rw [stayTo_succ,hp,List.length_append,<- d.at_];rfl
 ·rw [stayTo_succ,hp,<- d.head,List.take_add_one,List.take_set_of_le (by omega),List.getElem?_set_self (by omega)]
  simp
 ·rw [List.drop_set_of_lt (by omega)]
  have:=congrArg (List.drop 1) d.tail
  simpa [List.drop_drop,Nat.add_comm] using this
theorem delC (g cap:Nat) (xs:List (List Value)) (hn:xs.length<=100000) (hz:∀ x∈xs,x.length=4) (h1:∀ x∈xs,∀ v∈x,v.oneCell'=true) (f:FuncId) (q:goFn Tryz.prog f=true) (cp:Array Value) (p:Nat->Bool) (S:Nat->SP)
  (hf:∀ k x,xs[k]?=some x->Tu f (#[.agg x.toArray]++cp) (S k) λ v h=>v=.bool (p k)/\S (k+1) h) :
  Tu 357 #[.slice (some ⟨g,0,none⟩) xs.length cap,.func (.func f) #[] cp] (star [RwP 370 4 g cap xs,S 0]) λ v h =>
   v=.slice (some ⟨g,0,none⟩) (stay p xs).length cap/\∃ L,L.take (stay p xs).length=stay p xs/\L.length=xs.length/\star [RwP 370 4 g cap L,S xs.length] h:=by
 intro W h hw s
 have IX:=ixfC (some ⟨g,0,none⟩) xs.length cap xs W (by omega) f q cp p (λ k w=>Turns W h (star [RwP 370 4 g cap xs,S k]) w) (Turns.same hw s) (λ k w ⟨m,h',i,x,s'⟩=>by
   obtain ⟨h0,r,sb⟩:=s'.get (i:=0) rfl
   haveI:=i.sub sb
   exact r.rd rfl w) (λ k x w hx t=>?_) hz
 ·have hrun:=λ args w=>run_callGo (P:=Tryz.prog) q args w
  go_enter Tryz.func357,Tryz.ntmps357
  go_wp2_with fail
  refine IX.mono ?_
  rintro _ w1 ⟨k,rfl,hk,ha,hb,T1⟩
  dsimp only [ixV]
  by_cases hlt:k < xs.length
  ·rw [if_pos hlt] at T1 ⊢
   have hne:((k:Int) == -1)=false:=beq_eq_false_iff_ne.2 (by omega)
   have hi0:stayTo p xs (k+1)=xs.take k:=by
    rw [stayTo_succ,hb hlt,if_pos rfl,List.append_nil]
    have e:(List.range k).filter (λ j=>!p j)=List.range k:=List.filter_eq_self.2 λ j hj=>by simp [ha j (by simpa using hj)]
    rw [stayTo,e]
    apply List.ext_getElem?
    intro j
    by_cases hj:j < k
    ·rw [List.getElem?_map,List.getElem?_range hj,List.getElem?_take,if_pos hj,Option.map_some,List.getElem!_eq_getElem?_getD,List.getElem?_eq_getElem (by omega)]
     rfl
    ·rw [List.getElem?_eq_none (by simp;omega),List.getElem?_eq_none (by simp;omega)]
   have D0:DelI p xs 4 (k+1) k xs:=⟨rfl,hz,h1,by rw [hi0,List.length_take];omega,hi0.symm,rfl⟩
   have HF:=Lib.hid hf
   clear hf hi0 ha hb
   go_wp2_with fail
   go_loopw [5,6,7] (λ v5 v6 _ wr=>∃ (i j:Nat) (L:List (List Value)),j<=xs.length/\v5=.int .i64 i/\v6=.int .i64 j/\DelI p xs 4 j i L/\Turns W h (star [RwP 370 4 g cap L,S j]) wr)
    (λ _ v6 _ _=>xs.length - (intOf v6).toNat)
   case atStart=>exact ⟨k,k+1,xs,hlt,rfl,by go_num,D0,T1⟩
   case round =>
    obtain ⟨i,j,L,hj,rfl,rfl,D,T⟩:=hrel
    obtain ⟨m1,hp1,i1,x1,s1⟩:=T
    have hLl:=D.len
    by_cases hlj:j < xs.length
    ·obtain ⟨x,hx⟩:∃ x,xs[j]?=some x:=⟨_,List.getElem?_eq_getElem hlj⟩
     have hxz:=hz x (List.mem_of_getElem? hx)
     have hx1:=h1 x (List.mem_of_getElem? hx)
     have hLx:L[j]?=some x:=by rw [D.get hlj];exact hx
     have hij:i<=j:=by rw [D.at_];exact stayTo_len ..
     have hxj:xs[j]! = x:=by rw [List.getElem!_eq_getElem?_getD,hx];rfl
     haveI:SubAt g (j*4) x.toArray 4 wr:=by
      obtain ⟨h0,r,sb⟩:=s1.get (i:=0) rfl
      haveI:=i1.sub sb
      have R:=r.rd (c:=cap) hLl wr
      obtain ⟨b,o,e,hb,hc⟩:=R.cells j x hLx
      cases e
      exact ⟨by simpa using hxz,hb,λ k v e=>by have:=hc k v (by simpa using e);rwa [Nat.zero_add] at this⟩
     haveI:=sto_new (t:=370) (t':=370) (zs:=#[.int .i64 0,.int .i64 0,.bool false,.int .i64 0]) (by kernel_rfl) hxz hx1 rfl wr
     haveI:=sub_new (t':=370) hxz wr
     have HC:=((HF.out j x hx).at_ (l:=[RwP 370 4 g cap L,S j]) (i:=1) rfl)
     clear hx hLx
     go_wp2_with (first | ((with_reducible apply wpList_load);(·exact rfl);(·exact ii)) | ((with_reducible apply wpList_store);(·exact rfl);(·exact rfl);(·exact ii)))
     refine HC.go s1 ?_
     rintro v c h2 hA hE s2
     obtain ⟨rfl,s3⟩:=star.pure (i:=1) (l:=[RwP 370 4 g cap L,S j]) s2 (by simp)
     replace s3:star [RwP 370 4 g cap L,S (j+1)] h2:=s3
     have tn:Tn wr hp1 (md (wr.alloc (.cells x.toArray 370)) hp1 c) h2:=ii
     have hi2:=tn.i
     dsimp only
     cases hp:p j
     ·obtain ⟨W',hr,T3⟩:=row_set s3 (k:=0) rfl (i:=i) (by omega) x hxz hx1 (md (wr.alloc (.cells x.toArray 370)) hp1 c)
      haveI:=stoTy_of (t:=370) (by kernel_rfl) hxz hr
      have D':=D.keep hlj hp
      rw [hxj] at D'
      have T4:=Turns.after m1 x1 (Turns.after tn.m tn.x T3)
      clear tn T3 s2 s3 HC hr
      go_wp2_with (first | ((with_reducible apply wpList_load);(·exact rfl);(·exact ii)) | ((with_reducible apply wpList_store);(·exact rfl);(·exact rfl);(·exact ii)))
      exact ⟨⟨i+1,j+1,_,hlj,by go_num,by go_num,D',T4⟩,by simp [intOf];omega⟩
     ·have D':=D.skip hp
      have T4:=Turns.after m1 x1 (Turns.of (t:=tn) s3)
      clear tn s2 HC
      go_wp2_with fail
      exact ⟨⟨i,j+1,_,hlj,rfl,by go_num,D',T4⟩,by simp [intOf];omega⟩
    ·obtain rfl:xs.length=j:=by omega
     have hil:i<=xs.length:=by rw [D.at_];exact stayTo_len ..
     have hst:stayTo p xs xs.length=stay p xs:=rfl
     have hcap:xs.length<=cap:=by obtain ⟨h0,⟨_,_,_,_,_,h⟩,_⟩:=s1.get (i:=0) rfl;omega
     obtain ⟨W',hr,T3⟩:∃ W',(∀ ty,(Builtin.clear_ #[328] ty #[.slice (some ⟨g,if cap=i then 0 else i*4,none⟩) (xs.length - i) (cap - i)]).run Tryz.prog wr=.ok (.tuple #[]) W')/\Turns wr hp1 (λ h=>∃ L',L'.take i=L.take i/\L'.length=xs.length/\star [RwP 370 4 g cap L',S xs.length] h) W':=by
      by_cases hci:cap=i
      ·exact ⟨wr,λ ty=>by simp [Builtin.clear_,show xs.length - i=0 by omega,run_underlying Tryz.underlying328],Turns.same i1 ⟨L,rfl,hLl,s1⟩⟩
      ·obtain ⟨W',hr,T3⟩:=row_clear (ts:=328) (c:=cap - i) s1 (k:=0) rfl (i:=i) (by omega) (.agg #[.int .i64 0,.int .i64 0,.bool false,.int .i64 0]) Tryz.underlying328 (λ _=>by kernel_rfl) rfl (by omega) (by simp [Value.cells,Value.oneCell']) wr
       rw [hLl] at hr
       rw [if_neg hci]
       have h3:(L.take i).length=i:=by rw [List.length_take];omega
       exact ⟨W',hr,T3.mono λ h' s'=>⟨_,List.take_left' h3,by simp;omega,s'⟩⟩
     have hil2:i=(stay p xs).length:=by rw [<-hst];exact D.at_
     have T4:Turns W h (λ h=>∃ L,L.take (stay p xs).length=stay p xs/\L.length=xs.length/\star [RwP 370 4 g cap L,S xs.length] h) W':=(Turns.after m1 x1 T3).mono λ h' ⟨L',e1,e2,s'⟩=>⟨L',by rw [<-hil2,e1,D.head,hst],e2,s'⟩
     have H4:=Lib.hid T4
     have Hi:=Lib.hid hil2
     clear T3 T4 s1 hil2
     by_cases hci:cap=i
     ·subst hci
      simp only [if_true,Nat.sub_self,show xs.length - cap=0 by omega] at hr
      go_wp2_with fail
      go_ret
      exact ⟨_,rfl,H4.out.mono λ h' s'=>⟨by first | (rw [Hi.out];rfl) | rfl,s'⟩⟩
     ·simp only [hci,if_false] at hr
      go_wp2_with fail
      go_ret
      exact ⟨_,rfl,H4.out.mono λ h' s'=>⟨by first | (rw [Hi.out];rfl) | rfl,s'⟩⟩
  ·rw [if_neg hlt] at T1 ⊢
   have hst:stay p xs=xs:=by
    have hk2:xs.length=k:=by omega
    have e:(List.range xs.length).filter (λ j=>!p j)=List.range xs.length:=List.filter_eq_self.2 λ j hj=>by simp [ha j (by have:=List.mem_range.1 hj;omega)]
    rw [stay,e]
    apply List.ext_getElem?
    intro j
    by_cases hj:j < xs.length
    ·rw [List.getElem?_map,List.getElem?_range hj,Option.map_some,List.getElem!_eq_getElem?_getD,List.getElem?_eq_getElem hj]
     rfl
    ·rw [List.getElem?_eq_none (by simp;omega),List.getElem?_eq_none (by omega)]
   go_wp2_with fail
   go_ret
   exact ⟨_,rfl,T1.mono λ h' s'=>⟨by rw [hst];rfl,xs,by rw [hst,List.take_length],rfl,s'⟩⟩
 ·obtain ⟨m,h',i,x2,s'⟩:=t
  refine ((hf k x hx).at_ (l:=[RwP 370 4 g cap xs,S k]) (i:=1) rfl _ _ i s').mono ?_
  rintro e w' ⟨v,rfl,t⟩
  have t2:=t.mono (Q:=λ h=>v=.bool (p k)/\star [RwP 370 4 g cap xs,S (k+1)] h) λ h' s2=>star.pure (i:=1) (l:=[RwP 370 4 g cap xs,S k]) s2 (by simp)
  obtain ⟨m2,h2,i2,x3,rfl,s3⟩:=t2
  exact ⟨rfl,Turns.after m x2 ⟨m2,h2,i2,x3,s3⟩⟩
theorem delP (g cap:Nat) (xs:List (List Value)) (hn:xs.length<=100000) (hz:∀ x∈xs,x.length=12) (h1:∀ x∈xs,∀ v∈x,v.oneCell'=true) (f:FuncId) (q:goFn Tryz.prog f=true) (cp:Array Value) (p:Nat->Bool) (S:Nat->SP)
  (hf:∀ k x,xs[k]?=some x->Tu f (#[.agg x.toArray]++cp) (S k) λ v h=>v=.bool (p k)/\S (k+1) h) :
  Tu 178 #[.slice (some ⟨g,0,none⟩) xs.length cap,.func (.func f) #[] cp] (star [RwP 50 12 g cap xs,S 0]) λ v h =>
   v=.slice (some ⟨g,0,none⟩) (stay p xs).length cap/\∃ L,L.take (stay p xs).length=stay p xs/\L.length=xs.length/\star [RwP 50 12 g cap L,S xs.length] h:=by
 intro W h hw s
 have IX:=ixfP (some ⟨g,0,none⟩) xs.length cap xs W (by omega) f q cp p (λ k w=>Turns W h (star [RwP 50 12 g cap xs,S k]) w) (Turns.same hw s) (λ k w ⟨m,h',i,x,s'⟩=>by
   obtain ⟨h0,r,sb⟩:=s'.get (i:=0) rfl
   haveI:=i.sub sb
   exact r.rd rfl w) (λ k x w hx t=>?_) hz
 ·have hrun:=λ args w=>run_callGo (P:=Tryz.prog) q args w
  go_enter Tryz.func178,Tryz.ntmps178
  go_wp2_with fail
  refine IX.mono ?_
  rintro _ w1 ⟨k,rfl,hk,ha,hb,T1⟩
  dsimp only [ixV]
  by_cases hlt:k < xs.length
  ·rw [if_pos hlt] at T1 ⊢
   have hne:((k:Int) == -1)=false:=beq_eq_false_iff_ne.2 (by omega)
   have hi0:stayTo p xs (k+1)=xs.take k:=by
    rw [stayTo_succ,hb hlt,if_pos rfl,List.append_nil]
    have e:(List.range k).filter (λ j=>!p j)=List.range k:=List.filter_eq_self.2 λ j hj=>by simp [ha j (by simpa using hj)]
    rw [stayTo,e]
    apply List.ext_getElem?
    intro j
    by_cases hj:j < k
    ·rw [List.getElem?_map,List.getElem?_range hj,List.getElem?_take,if_pos hj,Option.map_some,List.getElem!_eq_getElem?_getD,List.getElem?_eq_getElem (by omega)]
     rfl
    ·rw [List.getElem?_eq_none (by simp;omega),List.getElem?_eq_none (by simp;omega)]
   have D0:DelI p xs 12 (k+1) k xs:=⟨rfl,hz,h1,by rw [hi0,List.length_take];omega,hi0.symm,rfl⟩
   have HF:=Lib.hid hf
   clear hf hi0 ha hb
   go_wp2_with fail
   go_loopw [5,6,7] (λ v5 v6 _ wr=>∃ (i j:Nat) (L:List (List Value)),j<=xs.length/\v5=.int .i64 i/\v6=.int .i64 j/\DelI p xs 12 j i L/\Turns W h (star [RwP 50 12 g cap L,S j]) wr)
    (λ _ v6 _ _=>xs.length - (intOf v6).toNat)
   case atStart=>exact ⟨k,k+1,xs,hlt,rfl,by go_num,D0,T1⟩
   case round =>
    obtain ⟨i,j,L,hj,rfl,rfl,D,T⟩:=hrel
    obtain ⟨m1,hp1,i1,x1,s1⟩:=T
    have hLl:=D.len
    by_cases hlj:j < xs.length
    ·obtain ⟨x,hx⟩:∃ x,xs[j]?=some x:=⟨_,List.getElem?_eq_getElem hlj⟩
     have hxz:=hz x (List.mem_of_getElem? hx)
     have hx1:=h1 x (List.mem_of_getElem? hx)
     have hLx:L[j]?=some x:=by rw [D.get hlj];exact hx
     have hij:i<=j:=by rw [D.at_];exact stayTo_len ..
     have hxj:xs[j]! = x:=by rw [List.getElem!_eq_getElem?_getD,hx];rfl
     haveI:SubAt g (j*12) x.toArray 12 wr:=by
      obtain ⟨h0,r,sb⟩:=s1.get (i:=0) rfl
      haveI:=i1.sub sb
      have R:=r.rd (c:=cap) hLl wr
      obtain ⟨b,o,e,hb,hc⟩:=R.cells j x hLx
      cases e
      exact ⟨by simpa using hxz,hb,λ k v e=>by have:=hc k v (by simpa using e);rwa [Nat.zero_add] at this⟩
     haveI:=sto_new (t:=50) (t':=50) (zs:=#[.int .i64 0,.int .i64 0,.int .i64 0,.int .i64 0,.bool false,.int .i64 0,.int .i64 0,.int .i64 0,.int .u64 0,.int .u64 0,.int .u64 0,.int .u64 0]) (by kernel_rfl) hxz hx1 rfl wr
     haveI:=sub_new (t':=50) hxz wr
     have HC:=((HF.out j x hx).at_ (l:=[RwP 50 12 g cap L,S j]) (i:=1) rfl)
     clear hx hLx
     go_wp2_with (first | ((with_reducible apply wpList_load);(·exact rfl);(·exact ii)) | ((with_reducible apply wpList_store);(·exact rfl);(·exact rfl);(·exact ii)))
     refine HC.go s1 ?_
     rintro v c h2 hA hE s2
     obtain ⟨rfl,s3⟩:=star.pure (i:=1) (l:=[RwP 50 12 g cap L,S j]) s2 (by simp)
     replace s3:star [RwP 50 12 g cap L,S (j+1)] h2:=s3
     have tn:Tn wr hp1 (md (wr.alloc (.cells x.toArray 50)) hp1 c) h2:=ii
     have hi2:=tn.i
     dsimp only
     cases hp:p j
     ·obtain ⟨W',hr,T3⟩:=row_set s3 (k:=0) rfl (i:=i) (by omega) x hxz hx1 (md (wr.alloc (.cells x.toArray 50)) hp1 c)
      haveI:=stoTy_of (t:=50) (by kernel_rfl) hxz hr
      have D':=D.keep hlj hp
      rw [hxj] at D'
      have T4:=Turns.after m1 x1 (Turns.after tn.m tn.x T3)
      clear tn T3 s2 s3 HC hr
      go_wp2_with (first | ((with_reducible apply wpList_load);(·exact rfl);(·exact ii)) | ((with_reducible apply wpList_store);(·exact rfl);(·exact rfl);(·exact ii)))
      exact ⟨⟨i+1,j+1,_,hlj,by go_num,by go_num,D',T4⟩,by simp [intOf];omega⟩
     ·have D':=D.skip hp
      have T4:=Turns.after m1 x1 (Turns.of (t:=tn) s3)
      clear tn s2 HC
      go_wp2_with fail
      exact ⟨⟨i,j+1,_,hlj,rfl,by go_num,D',T4⟩,by simp [intOf];omega⟩
    ·obtain rfl:xs.length=j:=by omega
     have hil:i<=xs.length:=by rw [D.at_];exact stayTo_len ..
     have hst:stayTo p xs xs.length=stay p xs:=rfl
     have hcap:xs.length<=cap:=by obtain ⟨h0,⟨_,_,_,_,_,h⟩,_⟩:=s1.get (i:=0) rfl;omega
     obtain ⟨W',hr,T3⟩:∃ W',(∀ ty,(Builtin.clear_ #[149] ty #[.slice (some ⟨g,if cap=i then 0 else i*12,none⟩) (xs.length - i) (cap - i)]).run Tryz.prog wr=.ok (.tuple #[]) W')/\Turns wr hp1 (λ h=>∃ L',L'.take i=L.take i/\L'.length=xs.length/\star [RwP 50 12 g cap L',S xs.length] h) W':=by
      by_cases hci:cap=i
      ·exact ⟨wr,λ ty=>by simp [Builtin.clear_,show xs.length - i=0 by omega,run_underlying Tryz.underlying149],Turns.same i1 ⟨L,rfl,hLl,s1⟩⟩
      ·obtain ⟨W',hr,T3⟩:=row_clear (ts:=149) (c:=cap - i) s1 (k:=0) rfl (i:=i) (by omega) (.agg #[.int .i64 0,.int .i64 0,.int .i64 0,.int .i64 0,.bool false,.int .i64 0,.int .i64 0,.int .i64 0,.int .u64 0,.int .u64 0,.int .u64 0,.int .u64 0]) Tryz.underlying149 (λ _=>by kernel_rfl) rfl (by omega) (by simp [Value.cells,Value.oneCell']) wr
       rw [hLl] at hr
       rw [if_neg hci]
       have h3:(L.take i).length=i:=by rw [List.length_take];omega
       exact ⟨W',hr,T3.mono λ h' s'=>⟨_,List.take_left' h3,by simp;omega,s'⟩⟩
     have hil2:i=(stay p xs).length:=by rw [<-hst];exact D.at_
     have T4:Turns W h (λ h=>∃ L,L.take (stay p xs).length=stay p xs/\L.length=xs.length/\star [RwP 50 12 g cap L,S xs.length] h) W':=(Turns.after m1 x1 T3).mono λ h' ⟨L',e1,e2,s'⟩=>⟨L',by rw [<-hil2,e1,D.head,hst],e2,s'⟩
     have H4:=Lib.hid T4
     have Hi:=Lib.hid hil2
     clear T3 T4 s1 hil2
     by_cases hci:cap=i
     ·subst hci
      simp only [if_true,Nat.sub_self,show xs.length - cap=0 by omega] at hr
      go_wp2_with fail
      go_ret
      exact ⟨_,rfl,H4.out.mono λ h' s'=>⟨by first | (rw [Hi.out];rfl) | rfl,s'⟩⟩
     ·simp only [hci,if_false] at hr
      go_wp2_with fail
      go_ret
      exact ⟨_,rfl,H4.out.mono λ h' s'=>⟨by first | (rw [Hi.out];rfl) | rfl,s'⟩⟩
  ·rw [if_neg hlt] at T1 ⊢
   have hst:stay p xs=xs:=by
    have hk2:xs.length=k:=by omega
    have e:(List.range xs.length).filter (λ j=>!p j)=List.range xs.length:=List.filter_eq_self.2 λ j hj=>by simp [ha j (by have:=List.mem_range.1 hj;omega)]
    rw [stay,e]
    apply List.ext_getElem?
    intro j
    by_cases hj:j < xs.length
    ·rw [List.getElem?_map,List.getElem?_range hj,Option.map_some,List.getElem!_eq_getElem?_getD,List.getElem?_eq_getElem hj]
     rfl
    ·rw [List.getElem?_eq_none (by simp;omega),List.getElem?_eq_none (by omega)]
   go_wp2_with fail
   go_ret
   exact ⟨_,rfl,T1.mono λ h' s'=>⟨by rw [hst];rfl,xs,by rw [hst,List.take_length],rfl,s'⟩⟩
 ·obtain ⟨m,h',i,x2,s'⟩:=t
  refine ((hf k x hx).at_ (l:=[RwP 50 12 g cap xs,S k]) (i:=1) rfl _ _ i s').mono ?_
  rintro e w' ⟨v,rfl,t⟩
  have t2:=t.mono (Q:=λ h=>v=.bool (p k)/\star [RwP 50 12 g cap xs,S (k+1)] h) λ h' s2=>star.pure (i:=1) (l:=[RwP 50 12 g cap xs,S k]) s2 (by simp)
  obtain ⟨m2,h2,i2,x3,rfl,s3⟩:=t2
  exact ⟨rfl,Turns.after m x2 ⟨m2,h2,i2,x3,s3⟩⟩
theorem delL (g cap:Nat) (xs:List (List Value)) (hn:xs.length<=100000) (hz:∀ x∈xs,x.length=2) (h1:∀ x∈xs,∀ v∈x,v.oneCell'=true) (f:FuncId) (q:goFn Tryz.prog f=true) (cp:Array Value) (p:Nat->Bool) (S:Nat->SP)
  (hf:∀ k x,xs[k]?=some x->Tu f (#[.agg x.toArray]++cp) (S k) λ v h=>v=.bool (p k)/\S (k+1) h) :
  Tu 324 #[.slice (some ⟨g,0,none⟩) xs.length cap,.func (.func f) #[] cp] (star [RwP 45 2 g cap xs,S 0]) λ v h =>
   v=.slice (some ⟨g,0,none⟩) (stay p xs).length cap/\∃ L,L.take (stay p xs).length=stay p xs/\L.length=xs.length/\star [RwP 45 2 g cap L,S xs.length] h:=by
 intro W h hw s
 have IX:=ixfL (some ⟨g,0,none⟩) xs.length cap xs W (by omega) f q cp p (λ k w=>Turns W h (star [RwP 45 2 g cap xs,S k]) w) (Turns.same hw s) (λ k w ⟨m,h',i,x,s'⟩=>by
   obtain ⟨h0,r,sb⟩:=s'.get (i:=0) rfl
   haveI:=i.sub sb
   exact r.rd rfl w) (λ k x w hx t=>?_) hz
 ·have hrun:=λ args w=>run_callGo (P:=Tryz.prog) q args w
  go_enter Tryz.func324,Tryz.ntmps324
  go_wp2_with fail
  refine IX.mono ?_
  rintro _ w1 ⟨k,rfl,hk,ha,hb,T1⟩
  dsimp only [ixV]
  by_cases hlt:k < xs.length
  ·rw [if_pos hlt] at T1 ⊢
   have hne:((k:Int) == -1)=false:=beq_eq_false_iff_ne.2 (by omega)
   have hi0:stayTo p xs (k+1)=xs.take k:=by
    rw [stayTo_succ,hb hlt,if_pos rfl,List.append_nil]
    have e:(List.range k).filter (λ j=>!p j)=List.range k:=List.filter_eq_self.2 λ j hj=>by simp [ha j (by simpa using hj)]
    rw [stayTo,e]
    apply List.ext_getElem?
    intro j
    by_cases hj:j < k
    ·rw [List.getElem?_map,List.getElem?_range hj,List.getElem?_take,if_pos hj,Option.map_some,List.getElem!_eq_getElem?_getD,List.getElem?_eq_getElem (by omega)]
     rfl
    ·rw [List.getElem?_eq_none (by simp;omega),List.getElem?_eq_none (by simp;omega)]
   have D0:DelI p xs 2 (k+1) k xs:=⟨rfl,hz,h1,by rw [hi0,List.length_take];omega,hi0.symm,rfl⟩
   have HF:=Lib.hid hf
   clear hf hi0 ha hb
   go_wp2_with fail
   go_loopw [5,6,7] (λ v5 v6 _ wr=>∃ (i j:Nat) (L:List (List Value)),j<=xs.length/\v5=.int .i64 i/\v6=.int .i64 j/\DelI p xs 2 j i L/\Turns W h (star [RwP 45 2 g cap L,S j]) wr)
    (λ _ v6 _ _=>xs.length - (intOf v6).toNat)
   case atStart=>exact ⟨k,k+1,xs,hlt,rfl,by go_num,D0,T1⟩
   case round =>
    obtain ⟨i,j,L,hj,rfl,rfl,D,T⟩:=hrel
    obtain ⟨m1,hp1,i1,x1,s1⟩:=T
    have hLl:=D.len
    by_cases hlj:j < xs.length
    ·obtain ⟨x,hx⟩:∃ x,xs[j]?=some x:=⟨_,List.getElem?_eq_getElem hlj⟩
     have hxz:=hz x (List.mem_of_getElem? hx)
     have hx1:=h1 x (List.mem_of_getElem? hx)
     have hLx:L[j]?=some x:=by rw [D.get hlj];exact hx
     have hij:i<=j:=by rw [D.at_];exact stayTo_len ..
     have hxj:xs[j]! = x:=by rw [List.getElem!_eq_getElem?_getD,hx];rfl
     haveI:SubAt g (j*2) x.toArray 2 wr:=by
      obtain ⟨h0,r,sb⟩:=s1.get (i:=0) rfl
      haveI:=i1.sub sb
      have R:=r.rd (c:=cap) hLl wr
      obtain ⟨b,o,e,hb,hc⟩:=R.cells j x hLx
      cases e
      exact ⟨by simpa using hxz,hb,λ k v e=>by have:=hc k v (by simpa using e);rwa [Nat.zero_add] at this⟩
     haveI:=sto_new (t:=45) (t':=45) (zs:=#[.int .i64 0,.int .i64 0]) (by kernel_rfl) hxz hx1 rfl wr
     haveI:=sub_new (t':=45) hxz wr
     have HC:=((HF.out j x hx).at_ (l:=[RwP 45 2 g cap L,S j]) (i:=1) rfl)
     clear hx hLx
     go_wp2_with (first | ((with_reducible apply wpList_load);(·exact rfl);(·exact ii)) | ((with_reducible apply wpList_store);(·exact rfl);(·exact rfl);(·exact ii)))
     refine HC.go s1 ?_
     rintro v c h2 hA hE s2
     obtain ⟨rfl,s3⟩:=star.pure (i:=1) (l:=[RwP 45 2 g cap L,S j]) s2 (by simp)
     replace s3:star [RwP 45 2 g cap L,S (j+1)] h2:=s3
     have tn:Tn wr hp1 (md (wr.alloc (.cells x.toArray 45)) hp1 c) h2:=ii
     have hi2:=tn.i
     dsimp only
     cases hp:p j
     ·obtain ⟨W',hr,T3⟩:=row_set s3 (k:=0) rfl (i:=i) (by omega) x hxz hx1 (md (wr.alloc (.cells x.toArray 45)) hp1 c)
      haveI:=stoTy_of (t:=45) (by kernel_rfl) hxz hr
      have D':=D.keep hlj hp
      rw [hxj] at D'
      have T4:=Turns.after m1 x1 (Turns.after tn.m tn.x T3)
      clear tn T3 s2 s3 HC hr
      go_wp2_with (first | ((with_reducible apply wpList_load);(·exact rfl);(·exact ii)) | ((with_reducible apply wpList_store);(·exact rfl);(·exact rfl);(·exact ii)))
      exact ⟨⟨i+1,j+1,_,hlj,by go_num,by go_num,D',T4⟩,by simp [intOf];omega⟩
     ·have D':=D.skip hp
      have T4:=Turns.after m1 x1 (Turns.of (t:=tn) s3)
      clear tn s2 HC
      go_wp2_with fail
      exact ⟨⟨i,j+1,_,hlj,rfl,by go_num,D',T4⟩,by simp [intOf];omega⟩
    ·obtain rfl:xs.length=j:=by omega
     have hil:i<=xs.length:=by rw [D.at_];exact stayTo_len ..
     have hst:stayTo p xs xs.length=stay p xs:=rfl
     have hcap:xs.length<=cap:=by obtain ⟨h0,⟨_,_,_,_,_,h⟩,_⟩:=s1.get (i:=0) rfl;omega
     obtain ⟨W',hr,T3⟩:∃ W',(∀ ty,(Builtin.clear_ #[281] ty #[.slice (some ⟨g,if cap=i then 0 else i*2,none⟩) (xs.length - i) (cap - i)]).run Tryz.prog wr=.ok (.tuple #[]) W')/\Turns wr hp1 (λ h=>∃ L',L'.take i=L.take i/\L'.length=xs.length/\star [RwP 45 2 g cap L',S xs.length] h) W':=by
      by_cases hci:cap=i
      ·exact ⟨wr,λ ty=>by simp [Builtin.clear_,show xs.length - i=0 by omega,run_underlying Tryz.underlying281],Turns.same i1 ⟨L,rfl,hLl,s1⟩⟩
      ·obtain ⟨W',hr,T3⟩:=row_clear (ts:=281) (c:=cap - i) s1 (k:=0) rfl (i:=i) (by omega) (.agg #[.int .i64 0,.int .i64 0]) Tryz.underlying281 (λ _=>by kernel_rfl) rfl (by omega) (by simp [Value.cells,Value.oneCell']) wr
       rw [hLl] at hr
       rw [if_neg hci]
       have h3:(L.take i).length=i:=by rw [List.length_take];omega
       exact ⟨W',hr,T3.mono λ h' s'=>⟨_,List.take_left' h3,by simp;omega,s'⟩⟩
     have hil2:i=(stay p xs).length:=by rw [<-hst];exact D.at_
     have T4:Turns W h (λ h=>∃ L,L.take (stay p xs).length=stay p xs/\L.length=xs.length/\star [RwP 45 2 g cap L,S xs.length] h) W':=(Turns.after m1 x1 T3).mono λ h' ⟨L',e1,e2,s'⟩=>⟨L',by rw [<-hil2,e1,D.head,hst],e2,s'⟩
     have H4:=Lib.hid T4
     have Hi:=Lib.hid hil2
     clear T3 T4 s1 hil2
     by_cases hci:cap=i
     ·subst hci
      simp only [if_true,Nat.sub_self,show xs.length - cap=0 by omega] at hr
      go_wp2_with fail
      go_ret
      exact ⟨_,rfl,H4.out.mono λ h' s'=>⟨by first | (rw [Hi.out];rfl) | rfl,s'⟩⟩
     ·simp only [hci,if_false] at hr
      go_wp2_with fail
      go_ret
      exact ⟨_,rfl,H4.out.mono λ h' s'=>⟨by first | (rw [Hi.out];rfl) | rfl,s'⟩⟩
  ·rw [if_neg hlt] at T1 ⊢
   have hst:stay p xs=xs:=by
    have hk2:xs.length=k:=by omega
    have e:(List.range xs.length).filter (λ j=>!p j)=List.range xs.length:=List.filter_eq_self.2 λ j hj=>by simp [ha j (by have:=List.mem_range.1 hj;omega)]
    rw [stay,e]
    apply List.ext_getElem?
    intro j
    by_cases hj:j < xs.length
    ·rw [List.getElem?_map,List.getElem?_range hj,Option.map_some,List.getElem!_eq_getElem?_getD,List.getElem?_eq_getElem hj]
     rfl
    ·rw [List.getElem?_eq_none (by simp;omega),List.getElem?_eq_none (by omega)]
   go_wp2_with fail
   go_ret
   exact ⟨_,rfl,T1.mono λ h' s'=>⟨by rw [hst];rfl,xs,by rw [hst,List.take_length],rfl,s'⟩⟩
 ·obtain ⟨m,h',i,x2,s'⟩:=t
  refine ((hf k x hx).at_ (l:=[RwP 45 2 g cap xs,S k]) (i:=1) rfl _ _ i s').mono ?_
  rintro e w' ⟨v,rfl,t⟩
  have t2:=t.mono (Q:=λ h=>v=.bool (p k)/\star [RwP 45 2 g cap xs,S (k+1)] h) λ h' s2=>star.pure (i:=1) (l:=[RwP 45 2 g cap xs,S k]) s2 (by simp)
  obtain ⟨m2,h2,i2,x3,rfl,s3⟩:=t2
  exact ⟨rfl,Turns.after m x2 ⟨m2,h2,i2,x3,s3⟩⟩
theorem addr_add (b o j:Nat):(⟨b,o,none⟩:Addr).add j=⟨b,o+j,none⟩:=by unfold Addr.add;split <;> simp_all
theorem own_empty (e:TypeId) (z:Nat) (W:World):OwnS e z (some ⟨W.heap.size,0,none⟩) 0 0 [] (W.alloc (.cells #[] e)) W :=
 ⟨⟨by simp,.inr ⟨W.heap.size,0,#[],rfl,Nat.le_refl _,alloc_heap_new _ _,Nat.le_refl _,Nat.zero_le _,by simp,by simp⟩⟩,⟨_,(congrArg (λ w:World=>w.alloc (.cells #[] e)) (gr_id W)).trans (gr_alloc _ _ _)⟩⟩
theorem run_appN {ts e:TypeId} {z by_:Nat} [k:ElT ts e z by_] {W W1:World} {ad:Option Addr} {a2:Addr} {n cap m c:Nat} {xs:List Value} {ys:List (List Value)} (ho:OwnS e z ad n cap xs W W1) (hr:RdS z (some a2) m c ys W) (hz:∀ y∈ys,y.length=z) (h1:∀ y∈ys,∀ u∈y,u.oneCell'=true) (hn:n+m<=1000000) (hb:by_<=1000) :
  ∃ ad' cap' W',(∀ ty,(Builtin.append_ #[ts,ts] ty #[.slice ad n cap,.slice (some a2) m c]).run Tryz.prog W=.ok (.slice ad' (n+m) cap') W')/\OwnS e z ad' (n+m) cap' (xs++ys.flatten) W' W1/\(ad≠none->ad'≠none):=by
 obtain ⟨i,zr,hi,hz0,hz1,hz2,hz3⟩:=ElT.el (ts:=ts) (e:=e) (z:=z) (by_:=by_)
 have ksl:=ElT.sl (ts:=ts) (e:=e) (z:=z) (by_:=by_)
 have kpos:=ElT.pos (ts:=ts) (e:=e) (z:=z) (by_:=by_)
 obtain ⟨g,hg⟩:=ho.grw
 have hsz:W1.heap.size<=W.heap.size:=by rw [hg,gr_size];omega
 obtain ⟨v',W',hrun,hown',hgr,hnil⟩:=run_append_own (P:=Tryz.prog) W W1.heap.size ts ts e i zr z by_ ksl hi hz0 hz1 hz2 hz3 kpos _ n xs ho.own a2 m c ys.flatten (by rw [flat_len hz,hr.len])
  (λ j u hj=>by
   have hl:=flat_len hz
   have hjl:j < ys.length*z:=by rw [<-hl];exact (List.getElem?_eq_some_iff.1 hj).1
   have hq:j / z < ys.length:=Nat.div_lt_of_lt_mul (by rw [Nat.mul_comm];exact hjl)
   have hm:j % z < z:=Nat.mod_lt _ kpos
   have e:j=j / z*z+j % z:=by rw [Nat.mul_comm];exact (Nat.div_add_mod ..).symm
   have hy:=List.getElem?_eq_getElem hq
   have h2:=flat_at ys z (j / z) (j % z) _ hz hy hm
   rw [<-e,hj] at h2
   obtain ⟨b,o,he,hb,hc⟩:=hr.cells _ _ hy
   obtain rfl:a2=⟨b,o,none⟩:=by injection he
   have h3:=hc _ _ h2.symm
   have e2:(⟨b,o,none⟩:Addr).add j=⟨b,o+j / z*z+j % z,none⟩:=by
    have:o+j / z*z+j % z=o+j:=by omega
    rw [this];exact addr_add _ _ _
   rw [e2];exact h3) (λ u hu=>by obtain ⟨y,hy,hu⟩:=List.mem_flatten.1 hu;exact h1 y hy u hu) (by unfold maxLen;omega) (by have:=Nat.mul_le_mul hn hb;omega) hsz
 have hb:Below W1.heap.size W1 W':=Below.grown (by rw [hg];exact below_gr _ _) hgr hsz (λ j hj=>(ho.own.lt j hj).1)
 rcases hown'.2 with ⟨rfl,h0⟩ | ⟨g',cap',cur',rfl,hb',hg',hle',hmx',hs',ht'⟩
 ·refine ⟨none,0,W',λ ty=>by rw [h0];exact hrun,⟨by rw [h0] at hown' ⊢;exact hown',gr_of_below hb⟩,λ h=>?_⟩
  have:=(hnil.1 rfl).1
  injection this with e1
  exact absurd e1 h
 ·exact ⟨_,cap',W',λ _=>hrun,⟨hown',gr_of_below hb⟩,λ _=>by simp⟩
section
variable {ops:Array Oper} {rest:List Oper} {Q:Exit->Act->World->Prop} {a:Act} {w:World} {d:Option Tmp} {pos:String} {aft:Array Edge}
theorem wpList_appN {ts e:TypeId} {z by_:Nat} [k:ElT ts e z by_] {x y:Operand} {W1:World} {ad:Option Addr} {a2:Addr} {n cap m c:Nat} {xs:List Value} {ys:List (List Value)} (hx:a.eval x=.slice ad n cap) (hy:a.eval y=.slice (some a2) m c)
  (ho:OwnS e z ad n cap xs w W1) (hr:RdS z (some a2) m c ys w) (hz:∀ y∈ys,y.length=z) (h1:∀ y∈ys,∀ u∈y,u.oneCell'=true) (hn:n+m<=1000000) (hb:by_<=1000)
  (h:∀ ad' cap' g,OwnS e z ad' (n+m) cap' (xs++ys.flatten) (gr W1 g) W1->(ad≠none->ad'≠none)->wpList Tryz.prog ops Q rest (a.put d (.slice ad' (n+m) cap')) (gr W1 g)) :
  wpList Tryz.prog ops Q ({ dst:=d,op:=.call { callee:=.builtin .append,args:=#[x,y],argTypes:=#[ts,ts] },type:=ts,pos:=pos,after:=aft,guard:=none }::rest) a w:=by
 obtain ⟨ad',cap',W',hrn,ho',hne⟩:=run_appN (ts:=ts) ho hr hz h1 hn hb
 refine wpList_append_run rfl _ _ _ _ rfl _ _ hx hy (hrn _) ?_
 obtain ⟨g,rfl⟩:=ho'.grw
 exact h ad' cap' g ho' hne
end
theorem clnC (ad:Option Addr) (n cap:Nat) (xs:List (List Value)) (W:World) [r:RdS 4 ad n cap xs W] (hn:n<=1000000) (hz:∀ y∈xs,y.length=4) (h1:∀ y∈xs,∀ u∈y,u.oneCell'=true) (h0:ad=none->cap=0) :
  Calls Tryz.prog 358 #[.slice ad n cap] W λ e w'=>∃ ad' cap',e=.returned (.slice ad' n cap')/\OwnS 370 4 ad' n cap' xs.flatten w' W/\(ad=none ↔ ad'=none):=by
 cases ad with
 | none =>
  obtain rfl:xs=[]:=by
   cases xs with
   | nil=>rfl
   | cons x l=>obtain ⟨b,o,e,_⟩:=r.cells 0 x rfl;cases e
  obtain rfl:n=0:=r.len.symm
  obtain rfl:=h0 rfl
  have he:=λ w:World=>(show (binOp .eql 328 (.slice none 0 0) (.slice none 0 0)).run Tryz.prog w=.ok (.bool true) w by kernel_rfl)
  go_enter Tryz.func358,Tryz.ntmps358
  go_wp2_with fail
  go_ret
  exact ⟨none,0,rfl,OwnS.nil _ _ _,by simp⟩
 | some a =>
  have he:=λ w:World=>(show (binOp .eql 328 (.slice (some a) n cap) (.slice none 0 0)).run Tryz.prog w=.ok (.bool false) w by kernel_rfl)
  go_enter Tryz.func358,Tryz.ntmps358
  go_wp2_with (at_builtin;refine wpList_appN (m:=n) (c:=cap) (ys:=xs) (by_:=32) rfl rfl (own_empty _ _ _) ii hz h1 (by omega) (by omega) ?_;intro ad' cap' g ho hne)
  go_ret
  rw [Nat.zero_add] at *
  exact ⟨ad',cap',by simp,ho,by simp;exact hne (by simp)⟩
instance elTU:ElT 202 207 2 16:=elT_of Tryz.underlying202 (by kernel_rfl) (by omega)
theorem clnU (ad:Option Addr) (n cap:Nat) (xs:List (List Value)) (W:World) [r:RdS 2 ad n cap xs W] (hn:n<=1000000) (hz:∀ y∈xs,y.length=2) (h1:∀ y∈xs,∀ u∈y,u.oneCell'=true) (h0:ad=none->cap=0) :
  Calls Tryz.prog 109 #[.slice ad n cap] W λ e w'=>∃ ad' cap',e=.returned (.slice ad' n cap')/\OwnS 207 2 ad' n cap' xs.flatten w' W/\(ad=none ↔ ad'=none):=by
 cases ad with
 | none =>
  obtain rfl:xs=[]:=by
   cases xs with
   | nil=>rfl
   | cons x l=>obtain ⟨b,o,e,_⟩:=r.cells 0 x rfl;cases e
  obtain rfl:n=0:=r.len.symm
  obtain rfl:=h0 rfl
  have he:=λ w:World=>(show (binOp .eql 202 (.slice none 0 0) (.slice none 0 0)).run Tryz.prog w=.ok (.bool true) w by kernel_rfl)
  go_enter Tryz.func109,Tryz.ntmps109
  go_wp2_with fail
  go_ret
  exact ⟨none,0,rfl,OwnS.nil _ _ _,by simp⟩
 | some a =>
  have he:=λ w:World=>(show (binOp .eql 202 (.slice (some a) n cap) (.slice none 0 0)).run Tryz.prog w=.ok (.bool false) w by kernel_rfl)
  go_enter Tryz.func109,Tryz.ntmps109
  go_wp2_with (at_builtin;refine wpList_appN (m:=n) (c:=cap) (ys:=xs) (by_:=16) rfl rfl (own_empty _ _ _) ii hz h1 (by omega) (by omega) ?_;intro ad' cap' g ho hne)
  go_ret
  rw [Nat.zero_add] at *
  exact ⟨ad',cap',by simp,ho,by simp;exact hne (by simp)⟩
instance elTR:ElT 76 92 2 16:=elT_of Tryz.underlying76 (by kernel_rfl) (by omega)
theorem clnR (ad:Option Addr) (n cap:Nat) (xs:List (List Value)) (W:World) [r:RdS 2 ad n cap xs W] (hn:n<=1000000) (hz:∀ y∈xs,y.length=2) (h1:∀ y∈xs,∀ u∈y,u.oneCell'=true) (h0:ad=none->cap=0) :
  Calls Tryz.prog 23 #[.slice ad n cap] W λ e w'=>∃ ad' cap',e=.returned (.slice ad' n cap')/\OwnS 92 2 ad' n cap' xs.flatten w' W/\(ad=none ↔ ad'=none):=by
 cases ad with
 | none =>
  obtain rfl:xs=[]:=by
   cases xs with
   | nil=>rfl
   | cons x l=>obtain ⟨b,o,e,_⟩:=r.cells 0 x rfl;cases e
  obtain rfl:n=0:=r.len.symm
  obtain rfl:=h0 rfl
  have he:=λ w:World=>(show (binOp .eql 76 (.slice none 0 0) (.slice none 0 0)).run Tryz.prog w=.ok (.bool true) w by kernel_rfl)
  go_enter Tryz.func23,Tryz.ntmps23
  go_wp2_with fail
  go_ret
  exact ⟨none,0,rfl,OwnS.nil _ _ _,by simp⟩
 | some a =>
  have he:=λ w:World=>(show (binOp .eql 76 (.slice (some a) n cap) (.slice none 0 0)).run Tryz.prog w=.ok (.bool false) w by kernel_rfl)
  go_enter Tryz.func23,Tryz.ntmps23
  go_wp2_with (at_builtin;refine wpList_appN (m:=n) (c:=cap) (ys:=xs) (by_:=16) rfl rfl (own_empty _ _ _) ii hz h1 (by omega) (by omega) ?_;intro ad' cap' g ho hne)
  go_ret
  rw [Nat.zero_add] at *
  exact ⟨ad',cap',by simp,ho,by simp;exact hne (by simp)⟩
instance elTN:ElT 73 125 15 120:=elT_of Tryz.underlying73 (by kernel_rfl) (by omega)
theorem clnN (ad:Option Addr) (n cap:Nat) (xs:List (List Value)) (W:World) [r:RdS 15 ad n cap xs W] (hn:n<=1000000) (hz:∀ y∈xs,y.length=15) (h1:∀ y∈xs,∀ u∈y,u.oneCell'=true) (h0:ad=none->cap=0) :
  Calls Tryz.prog 158 #[.slice ad n cap] W λ e w'=>∃ ad' cap',e=.returned (.slice ad' n cap')/\OwnS 125 15 ad' n cap' xs.flatten w' W/\(ad=none ↔ ad'=none):=by
 cases ad with
 | none =>
  obtain rfl:xs=[]:=by
   cases xs with
   | nil=>rfl
   | cons x l=>obtain ⟨b,o,e,_⟩:=r.cells 0 x rfl;cases e
  obtain rfl:n=0:=r.len.symm
  obtain rfl:=h0 rfl
  have he:=λ w:World=>(show (binOp .eql 73 (.slice none 0 0) (.slice none 0 0)).run Tryz.prog w=.ok (.bool true) w by kernel_rfl)
  go_enter Tryz.func158,Tryz.ntmps158
  go_wp2_with fail
  go_ret
  exact ⟨none,0,rfl,OwnS.nil _ _ _,by simp⟩
 | some a =>
  have he:=λ w:World=>(show (binOp .eql 73 (.slice (some a) n cap) (.slice none 0 0)).run Tryz.prog w=.ok (.bool false) w by kernel_rfl)
  go_enter Tryz.func158,Tryz.ntmps158
  go_wp2_with (at_builtin;refine wpList_appN (m:=n) (c:=cap) (ys:=xs) (by_:=120) rfl rfl (own_empty _ _ _) ii hz h1 (by omega) (by omega) ?_;intro ad' cap' g ho hne)
  go_ret
  rw [Nat.zero_add] at *
  exact ⟨ad',cap',by simp,ho,by simp;exact hne (by simp)⟩
instance elTG:ElT 22 67 2 16:=elT_of Tryz.underlying22 (by kernel_rfl) (by omega)
theorem clnG (ad:Option Addr) (n cap:Nat) (xs:List (List Value)) (W:World) [r:RdS 2 ad n cap xs W] (hn:n<=1000000) (hz:∀ y∈xs,y.length=2) (h1:∀ y∈xs,∀ u∈y,u.oneCell'=true) (h0:ad=none->cap=0) :
  Calls Tryz.prog 88 #[.slice ad n cap] W λ e w'=>∃ ad' cap',e=.returned (.slice ad' n cap')/\OwnS 67 2 ad' n cap' xs.flatten w' W/\(ad=none ↔ ad'=none):=by
 cases ad with
 | none =>
  obtain rfl:xs=[]:=by
   cases xs with
   | nil=>rfl
   | cons x l=>obtain ⟨b,o,e,_⟩:=r.cells 0 x rfl;cases e
  obtain rfl:n=0:=r.len.symm
  obtain rfl:=h0 rfl
  have he:=λ w:World=>(show (binOp .eql 22 (.slice none 0 0) (.slice none 0 0)).run Tryz.prog w=.ok (.bool true) w by kernel_rfl)
  go_enter Tryz.func88,Tryz.ntmps88
  go_wp2_with fail
  go_ret
  exact ⟨none,0,rfl,OwnS.nil _ _ _,by simp⟩
 | some a =>
  have he:=λ w:World=>(show (binOp .eql 22 (.slice (some a) n cap) (.slice none 0 0)).run Tryz.prog w=.ok (.bool false) w by kernel_rfl)
  go_enter Tryz.func88,Tryz.ntmps88
  go_wp2_with (at_builtin;refine wpList_appN (m:=n) (c:=cap) (ys:=xs) (by_:=16) rfl rfl (own_empty _ _ _) ii hz h1 (by omega) (by omega) ?_;intro ad' cap' g ho hne)
  go_ret
  rw [Nat.zero_add] at *
  exact ⟨ad',cap',by simp,ho,by simp;exact hne (by simp)⟩
theorem clnI (ad:Option Addr) (n cap:Nat) (xs:List (List Value)) (W:World) [r:RdS 1 ad n cap xs W] (hn:n<=1000000) (hz:∀ y∈xs,y.length=1) (h1:∀ y∈xs,∀ u∈y,u.oneCell'=true) (h0:ad=none->cap=0) :
  Calls Tryz.prog 60 #[.slice ad n cap] W λ e w'=>∃ ad' cap',e=.returned (.slice ad' n cap')/\OwnS 3 1 ad' n cap' xs.flatten w' W/\(ad=none ↔ ad'=none):=by
 cases ad with
 | none =>
  obtain rfl:xs=[]:=by
   cases xs with
   | nil=>rfl
   | cons x l=>obtain ⟨b,o,e,_⟩:=r.cells 0 x rfl;cases e
  obtain rfl:n=0:=r.len.symm
  obtain rfl:=h0 rfl
  have he:=λ w:World=>(show (binOp .eql 36 (.slice none 0 0) (.slice none 0 0)).run Tryz.prog w=.ok (.bool true) w by kernel_rfl)
  go_enter Tryz.func60,Tryz.ntmps60
  go_wp2_with fail
  go_ret
  exact ⟨none,0,rfl,OwnS.nil _ _ _,by simp⟩
 | some a =>
  have he:=λ w:World=>(show (binOp .eql 36 (.slice (some a) n cap) (.slice none 0 0)).run Tryz.prog w=.ok (.bool false) w by kernel_rfl)
  go_enter Tryz.func60,Tryz.ntmps60
  go_wp2_with (at_builtin;refine wpList_appN (m:=n) (c:=cap) (ys:=xs) (by_:=8) rfl rfl (own_empty _ _ _) ii hz h1 (by omega) (by omega) ?_;intro ad' cap' g ho hne)
  go_ret
  rw [Nat.zero_add] at *
  exact ⟨ad',cap',by simp,ho,by simp;exact hne (by simp)⟩
theorem tu_pure {f:FuncId} {args:Array Value} {v:Value} (h:∀ W,Calls Tryz.prog f args W (Ret v W)) (p:SP):Tu f args p λ v' h=>v'=v/\p h :=
 λ W hp i s=>(h W).mono λ _ _ ⟨e,b⟩=>⟨v,e,Turns.below i ⟨rfl,s⟩ b⟩
set_option maxRecDepth 512 in
theorem par1_at (c:Col) (W:World):Calls Tryz.prog 359 #[.agg c.cl.toArray] W (Ret (.bool c.par) W):=by
 obtain ⟨d,a,p,r⟩:=c
 simp only [Col.cl]
 go_enter Tryz.func359,Tryz.ntmps359
 go_wp2_with fail
 go_ret
 exact Ret.mk rfl grown
def izV (l:List Int):List Value:=l.map λ x=>.int .i64 x
def izC (l:List Int):List (List Value):=l.map λ x=>[.int .i64 x]
theorem rdI_of_holds {blk cap:Nat} {d:List Int} {W:World} (h:Holds (Value.int .i64) W blk 0 d.toArray) (hb:blk < W.heap.size):RdS 1 (some ⟨blk,0,none⟩) d.length cap (izC d) W:=by
 refine ⟨by simp [izC],λ k x hx=>⟨blk,0,rfl,⟨hb⟩,λ j v hj=>?_⟩⟩
 have hk:k < d.length:=by have:=(List.getElem?_eq_some_iff.1 hx).1;simpa [izC] using this
 have ex:x=[.int .i64 d[k]]:=by
  have:(izC d)[k]?=some [.int .i64 d[k]]:=by simp [izC,hk]
  rw [this] at hx;injection hx with hx;exact hx.symm
 subst ex
 have hj0:j=0:=by
  have:=(List.getElem?_eq_some_iff.1 hj).1
  simp at this;exact this
 subst hj0
 have ev:v=.int .i64 d[k]:=by simpa using hj.symm
 have:=(h k (by simpa using hk)).1
 rw [Nat.mul_one,Nat.add_zero,this,ev]
 simp [hk]
theorem devs_at (ad:Option Addr) (n cap:Nat) (L:List Col) (W:World) [h:RdS 4 ad n cap (colC L) W] (hn:n<=100) (h0:0 < n) :
  Calls Tryz.prog 360 #[.slice ad n cap] W λ e w'=>∃ ad2 m cap2 ns,e=.returned (.slice (some ad2) m cap2)/\m<=n/\RdS 1 (some ad2) m cap2 (izC ns) w'/\∃ g,w'=gr W g:=by
 have hlen:L.length=n:=by have:=h.len;simpa [colC] using this
 go_enter Tryz.func360,Tryz.ntmps360
 go_wp2_with fail
 go_loopw [3,8] (λ v i wr=>∃ (k:Nat) (ad2:Option Addr) (cap2:Nat),k<=n/\i=.int .i64 k/\v=.slice ad2 k cap2/\OwnS 3 1 ad2 k cap2 (izV ((L.take k).map Col.dev)) wr W)
  (λ _ i _=>n - (intOf i).toNat)
 case atStart=>exact ⟨0,none,0,Nat.zero_le _,rfl,rfl,OwnS.nil _ _ _⟩
 case round =>
  obtain ⟨k,ad2,cap2,hk,rfl,rfl,ho⟩:=hrel
  obtain ⟨g,rfl⟩:=ho.grw
  by_cases hlt:k < n
  ·obtain ⟨c,hc⟩:∃ c,L[k]?=some c:=⟨_,List.getElem?_eq_getElem (by omega)⟩
   obtain ⟨b,o,rfl,hb,c0,c1,c2,c3⟩:=colAt h hc
   have Hc:=Lib.hid hc
   clear hc
   go_wp2_with (at_builtin;(with_reducible apply wpList_app1);(·exact rfl);(·exact rfl);(·exact ii);(·exact ii);(·exact ii);(·exact rfl);(·decide);(·omega);intro gA capA gW hOwn)
   refine ⟨⟨k+1,_,_,hlt,by go_num,rfl,?_⟩,by simp [intOf];omega⟩
   rw [List.take_add_one,Hc.out]
   simpa [izV] using hOwn
  ·obtain rfl:n=k:=by omega
   have zl:((L.take n).map Col.dev).length=n:=by simp;omega
   generalize (L.take n).map Col.dev=zs at *
   obtain ⟨b,rfl⟩:∃ b,ad2=some ⟨b,0,none⟩:=by
    rcases ho.own.2 with ⟨_,h1⟩ | ⟨g,c,cur,e,_⟩
    ·omega
    ·injection e with e1;exact ⟨g,e1⟩
   have hcap:n<=cap2:=by
    rcases ho.own.2 with ⟨_,h1⟩ | ⟨g,c,cur,e,_,_,h2,_⟩
    ·omega
    ·injection e with _ _ e3;omega
   have hbl:=ho.own.lt b rfl
   obtain ⟨f1,f2,f3⟩:=ho.facts
   have hH:Holds (Value.int .i64) (gr W g) b 0 zs.toArray:=λ j hj=>by
    have hj:j < zs.length:=by simpa using hj
    rw [Nat.zero_add]
    exact ⟨f1 j _ (by simp [izV,hj]),f2 j⟩
   have SO:=Tryz.slices_Sort_int b 0 cap2 zs (gr W g) hH hbl.2 (by omega)
   rw [zl] at SO
   have hM:(zs.mergeSort λ x y=>decide (x<=y)).length=n:=by rw [List.length_mergeSort,zl]
   have hHs:=λ q=>holds_putRow (Value.int .i64) (Sort.ahead (gr W g) q) b 0 zs.toArray (zs.mergeSort λ x y=>decide (x<=y)).toArray (holds_ahead _ _ q b 0 _ hH) (by simp)
   generalize (zs.mergeSort λ x y=>decide (x<=y))=ss at *
   clear f1 f2 hH
   go_wp2_with fail
   refine SO.mono ?_
   rintro e w' ⟨rfl,q,os,rfl⟩
   have hB0:Below W.heap.size W (putRow (Value.int .i64) (Sort.ahead (gr W g) q) b 0 ss.toArray):=Lib.below_putRow (below_gr W g) hbl.1
   have hsz:b < (putRow (Value.int .i64) (Sort.ahead (gr W g) q) b 0 ss.toArray).heap.size:=by simpa [putRow,mapBlock,Sort.ahead] using hbl.2
   have hH2:=holds_grow (Value.int .i64) _ os b 0 _ hsz (hHs q)
   have eg:∀ (w:World) (os:Array Obj),grow w os=gr w ⟨w.drawn,os⟩:=λ w os=>by simp [gr,redrawn]
   have hB1:Below W.heap.size W (grow (putRow (Value.int .i64) (Sort.ahead (gr W g) q) b 0 ss.toArray) os):=by
    rw [eg];exact belowGr hB0 hB0.size _
   have hs1:b < (grow (putRow (Value.int .i64) (Sort.ahead (gr W g) q) b 0 ss.toArray) os).heap.size:=by rw [eg,gr_size];omega
   generalize grow (putRow (Value.int .i64) (Sort.ahead (gr W g) q) b 0 ss.toArray) os=V at *
   have CO:=Tryz.slices_Compact_int b 0 cap2 ss V hH2 (by omega) (by omega)
   rw [hM] at CO
   have hml:(Lib.compact ss).length<=n:=by rw [<-hM];unfold Lib.compact Lib.compactUpTo;rw [List.length_map];exact Nat.le_trans (List.length_filter_le ..) (by simp)
   have hHc:=λ q=>holds_putRow (Value.int .i64) (Sort.ahead V q) b 0 ss.toArray (Lib.compact ss++List.replicate (n - (Lib.compact ss).length) 0).toArray (holds_ahead _ _ q b 0 _ hH2) (by simp;omega)
   generalize Lib.compact ss=cs at *
   clear SO hHs hH2 hB0 hsz
   dsimp only
   go_wp2_with fail
   refine CO.mono ?_
   rintro e w' ⟨rfl,q2,rfl⟩
   have hB2:Below W.heap.size W (putRow (Value.int .i64) (Sort.ahead V q2) b 0 (cs++List.replicate (n - cs.length) 0).toArray):=Lib.below_putRow hB1 hbl.1
   have R2:=rdI_of_holds (cap:=cap2) (hHc q2) (by simpa [putRow,mapBlock,Sort.ahead] using hs1)
   generalize putRow (Value.int .i64) (Sort.ahead V q2) b 0 (cs++List.replicate (n - cs.length) 0).toArray=V2 at *
   clear CO hHc
   dsimp only
   go_wp2_with fail
   go_ret
   refine ⟨_,_,_,cs,rfl,hml,⟨by simp [izC],λ k x hx=>R2.cells k x ?_⟩,gr_of_below hB2⟩
   rw [<-hx]
   simp only [izC,List.map_append]
   exact List.getElem?_append_left (by have:=(List.getElem?_eq_some_iff.1 hx).1;simpa [izC] using this)
theorem rds_mod {z:Nat} {ad:Option Addr} {n cap:Nat} {xs:List (List Value)} {W w:World} {h:Hl} {N:Nat} (r:RdS z ad n cap xs W) (m:Mod h W w) (o:OutB N h) (hN:∀ a,ad=some a->0 < n->a.block < N):RdS z ad n cap xs w:=⟨r.len,λ k x hx=>by
 obtain ⟨b,f,e1,e2,e3⟩:=r.cells k x hx
 have hk:=(List.getElem?_eq_some_iff.1 hx).1
 have hb:=hN _ e1 (by rw [<-r.len];omega)
 have e4:=m.block b e2.h (o.out b hb)
 exact ⟨b,f,e1,⟨Nat.lt_of_lt_of_le e2.h m.size⟩,λ j v hv=>(World.cell?_of_block e4).trans (e3 j v hv)⟩⟩
theorem RdS.lt {z:Nat} {ad:Option Addr} {n cap:Nat} {xs:List (List Value)} {W:World} (r:RdS z ad n cap xs W):∀ a,ad=some a->0 < n->a.block < W.heap.size:=by
 intro a e hn
 obtain ⟨b,f,e1,e2,_⟩:=r.cells 0 _ (List.getElem?_eq_getElem (by rw [r.len];exact hn))
 rw [e] at e1
 injection e1 with e1
 subst e1
 exact e2.h
def isDat (L:List Col) (i:Nat):Bool:=match L[i]? with
 | some c=>!c.par
 | none=>false
def catD (L:List Col) (G:List ByteArray) (k:Nat):List UInt8:=((List.range k).filter (isDat L)).flatMap λ i=>(G.getD i ⟨#[]⟩).data.toList
theorem catD_succ {L:List Col} {G:List ByteArray} {k:Nat} {c:Col} {s:ByteArray} (hc:L[k]?=some c) (hs:G[k]?=some s):catD L G (k+1)=catD L G k++if c.par then [] else s.data.toList:=by
 unfold catD
 rw [List.range_succ,List.filter_append,List.flatMap_append]
 congr 1
 cases hp:c.par <;> simp [isDat,hc,hp,List.getD_eq_getElem?_getD,hs]
theorem catD_len (L:List Col) (G:List ByteArray) (h:∀ s∈G,s.size=64):∀ k,(catD L G k).length<=64*k
 | 0=>by simp [catD]
 | k+1=>by
  have ih:=catD_len L G h k
  unfold catD at ih ⊢
  rw [List.range_succ,List.filter_append,List.flatMap_append,List.length_append]
  have:(([k].filter (isDat L)).flatMap λ i=>(G.getD i ⟨#[]⟩).data.toList).length<=64:=by
   cases hd:isDat L k <;> simp [hd]
   cases hg:G[k]? with
   | none=>exact Nat.zero_le _
   | some s=>have:=h s (List.mem_of_getElem? hg);show s.size<=64;omega
  omega
theorem without_at (ad ad2:Option Addr) (n cap cap2:Nat) (L:List Col) (G:List ByteArray) (W:World) [h:RdS 4 ad n cap (colC L) W] [h2:RdS 1 ad2 n cap2 (strC G) W] (hn:n<=100) (hL:∀ c∈L,0<=c.dev) (hG:∀ s∈G,s.size=64) :
  Calls Tryz.prog 361 #[.slice ad n cap,.slice ad2 n cap2,.int .i64 (-1)] W (Ret (.string ⟨(catD L G n).toArray⟩) W):=by
 have hlen:L.length=n:=by have:=h.len;simpa [colC] using this
 have hlen2:G.length=n:=by have:=h2.len;simpa [strC] using this
 obtain ⟨h0,a0,i0,o0⟩:=bl_at W W.heap.size
 go_enter Tryz.func361,Tryz.ntmps361
 go_wp2_with fail
 go_loopw [13] (λ i wr=>∃ k:Nat,k<=n/\i=.int .i64 k/\Turns (W.alloc (.cells #[.pointer none,.slice none 0 0] 160)) h0 (Bl W.heap.size (catD L G k)) wr)
  (λ i _=>n - (intOf i).toNat)
 case atStart=>exact ⟨0,Nat.zero_le _,rfl,Turns.same a0 i0⟩
 case round =>
  obtain ⟨k,hk,rfl,T⟩:=hrel
  have r1:RdS 4 ad n cap (colC L) wr:=rds_mod (ii:RdS 4 ad n cap (colC L) (W.alloc (.cells #[.pointer none,.slice none 0 0] 160))) T.1 o0 h.lt
  have r2:RdS 1 ad2 n cap2 (strC G) wr:=rds_mod (ii:RdS 1 ad2 n cap2 (strC G) (W.alloc (.cells #[.pointer none,.slice none 0 0] 160))) T.1 o0 h2.lt
  obtain ⟨m1,hp1,i1,x1,b1⟩:=T
  have hcl:=catD_len L G hG k
  by_cases hlt:k < n
  ·obtain ⟨c,hc⟩:∃ c,L[k]?=some c:=⟨_,List.getElem?_eq_getElem (by omega)⟩
   obtain ⟨s,hs⟩:∃ s,G[k]?=some s:=⟨_,List.getElem?_eq_getElem (by omega)⟩
   obtain ⟨b,o,rfl,hb,c0,c1,c2,c3⟩:=colAt r1 hc
   obtain ⟨b',o',rfl,hb',hd⟩:=r2.cells k [.string s] (by simp [strC,hs])
   have d0:=hd 0 _ rfl
   rw [Nat.mul_one,Nat.add_zero] at d0
   have hcd:=hL c (List.mem_of_getElem? hc)
   have hsz:=hG s (List.mem_of_getElem? hs)
   have hne:s.toList.isEmpty=false:=ne_of_size (by omega)
   have hdv:(c.dev == -1)=false:=beq_eq_false_iff_ne.2 (by omega)
   have hsu:=catD_succ hc hs
   clear hc hs hd
   cases hp:c.par
   ·rw [hp] at c2 hsu
    have HS:=Lib.hid hsu
    clear hsu
    go_wp2_with fail
    refine (write_h hp1 _ _ _ b1 _ (by omega)).mono ?_
    rintro e w' ⟨rfl,t⟩
    have tn:Tn wr hp1 (wr.alloc (.cells #[.int .i64 c.dev,.int .i64 c.at_,.bool false,.int .i64 c.row] 370)) hp1:=ii
    have HT:=Lib.hid (Turns.after m1 x1 (Turns.after tn.m tn.x t))
    clear t tn
    dsimp only
    go_wp2_with fail
    exact ⟨⟨k+1,hlt,by go_num,by rw [HS.out];exact HT.out⟩,by simp [intOf];omega⟩
   ·rw [hp] at c2 hsu
    have HS:=Lib.hid hsu
    have T2:=Turns.after m1 x1 (Turns.of (W:=wr) (h:=hp1) (w:=wr.alloc (.cells #[.int .i64 c.dev,.int .i64 c.at_,.bool true,.int .i64 c.row] 370)) (h':=hp1) (P:=Bl W.heap.size (catD L G k)) b1)
    have HT:=Lib.hid T2
    clear hsu T2
    go_wp2_with fail
    exact ⟨⟨k+1,hlt,by go_num,by rw [HS.out];simpa using HT.out⟩,by simp [intOf];omega⟩
  ·obtain rfl:n=k:=by omega
   go_wp2_with fail
   refine (str_h hp1 _ _ b1 _).mono ?_
   rintro e w' ⟨rfl,m⟩
   dsimp only
   go_wp2_with fail
   go_ret
   haveI:OutB W.heap.size hp1:=⟨λ k hk=>x1 k (by rw [World.size_alloc];omega) (o0.out k hk)⟩
   haveI:Upto W.heap.size wr:=⟨by have:=m1.size;rw [World.size_alloc] at this;omega⟩
   exact Ret.mk rfl (belowMod (belowMod (X:=W.alloc (.cells #[.pointer none,.slice none 0 0] 160)) grown m1) m)
end Go.Proofs.YtlfjdjndhcmliaaGreatDoor
