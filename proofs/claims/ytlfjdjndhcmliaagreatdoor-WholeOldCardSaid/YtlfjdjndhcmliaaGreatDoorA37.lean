/- WholeOld, part 37. -/
import Derived.Test.YtlfjdjndhcmliaaGreatDoorA12
import Derived.DeepKeys4
set_option maxRecDepth 100000
set_option maxHeartbeats 4000000
set_option linter.all false
namespace Go.Proofs.YtlfjdjndhcmliaaGreatDoor
open Go.RowKit Go.Sort
open Go.Maps Go.ChangeMaps
open Go.WideElems (Fit rd rg pl)
theorem Zgp:laidOutB Tryz.prog=true:=by kernel_rfl
theorem Zgq:(match Tryz.prog.underlying 45 with|some (.array _ _)|some (.struct _)=>true|_=>false)=true:=by rw [Tryz.underlying45]
theorem types_size:Tryz.prog.types.size=469:=by kernel_rfl
theorem ZiK:(45:TypeId)<Tryz.prog.types.size:=by rw [types_size];decide
theorem Zlw:Tryz.prog.keyTypeAt 2 45=true:=by kernel_rfl
theorem zy:Keyed Tryz.prog 45:=Keyed.of_law (deep_law_laid Zgp (m:=2) (by decide) ZiK Zlw Zgq)
def qA(x:Int × Int):Value:=.agg #[.int .i64 x.1,.int .i64 x.2]
theorem Zdq{x:Int × Int}(h1:(Lit.int .i64 x.1).wf=true)(h2:(Lit.int .i64 x.2).wf=true):∃ l,keyOf Tryz.prog 45 (qA x)=some l:=by
 obtain⟨a,b⟩:=x;have hk:Tryz.prog.keyType 45=true:=by kernel_rfl
 obtain⟨n,hn⟩:∃ n,Tryz.prog.types.size=n+1:=⟨468,types_size⟩
 have hc:Tryz.prog.cellsOf 45=2:=by kernel_rfl
 have hi:Tryz.prog.cellsOf 3=1:=by kernel_rfl
 have hf:(qA (a,b)).formed Tryz.prog 45=true:=by simp [qA,Value.formed,Tryz.underlying45,hc]
 refine⟨.string (keyBytes [.int .i64 a,.int .i64 b]),?_⟩;unfold keyOf;simp only [Tryz.underlying45];rw [if_pos (by rw [hk,hf];rfl),hn];simp [Program.keyLits,Tryz.underlying45,Tryz.underlying3,hc,hi,Value.cells,qA,h1,h2]
def boR(v:Value):Option (DataW Value × List MemPlace):=match v with
 | .bool _=>some (.held v,[])
 |_=>none
theorem ZdE(v:Value)(y:DataW Value × List MemPlace)(h:boR v=some y):y=(.held v,[]):=by
 unfold boR at h;split at h
 ·cases h;rfl
 ·cases h
structure ZmB(D:DataW Value)(g:Int × Int->Bool):Prop where
 at_:∀ x l,keyOf Tryz.prog 45 (qA x)=some l->g x=true->∀ z,D.atKey l z=.held (.bool true)
 non:∀ x l,keyOf Tryz.prog 45 (qA x)=some l->g x=false->Maps.has D l=false
def zW(C N:Nat)(g:Int × Int->Bool):SP:=λ h=>∃ es clock,h C=some (.map es clock)/\Fit Tryz.prog 45 boR es clock/\es.size<=N/\ZmB (.map ((es.toList.map (rg Tryz.prog 45 boR)).foldr DataW.insert [])) g
def wf2(x:Int × Int):Prop:=(Lit.int .i64 x.1).wf=true/\(Lit.int .i64 x.2).wf=true
theorem Zd3{C N:Nat}{g:Int × Int->Bool}{h:Hl}(m:zW C N g h)(W:World)[i:Has W h]{x:Int × Int}(hx:wf2 x):(Instr.lookup 274 (.map (some C)) (qA x) false).run Tryz.prog W=.ok (.bool (g x)) W:=by
 obtain⟨es,clock,hb,F,_,d⟩:=m;obtain⟨l,hl⟩:=Zdq hx.1 hx.2;rcases Maps.fit_look false zy Tryz.underlying274 (z:=.bool false) (by kernel_rfl) (i.get _ _ hb) F hl with ⟨hrun,_,hat⟩|⟨e0,y,_,_,hrun,hy,hat,_⟩
 ·cases hg:g x with
  |false=>exact hrun
  |true =>
   have:=d.at_ x l hl hg (.nil);rw [hat]at this;exact absurd this (by simp)
 ·cases hg:g x with
  |false =>
   have:=Maps.atKey_of_not_has (d.non x l hl hg) .nil;rw [hat,ZdE _ _ hy]at this;cases this
  |true =>
   have:=d.at_ x l hl hg .nil;rw [hat,ZdE _ _ hy]at this;have e:e0.val=.bool true:=DataW.held.inj this;rw [<-e];exact hrun
def Zav(g:Int × Int->Bool)(x y:Int × Int):Bool:=if y=x then true else g y
theorem ZhB{x y:Int × Int}{l l':Lit}(h:keyOf Tryz.prog 45 (qA x)=some l)(h':keyOf Tryz.prog 45 (qA y)=some l')(hne:y≠x):l'≠l:=λ e=>by
 subst e;have:=zy.inj h h';obtain⟨a,b⟩:=x;obtain⟨c,d⟩:=y;simp [qA]at this;exact hne (by rw [this.1,this.2])
theorem ZgD{C N:Nat}{g:Int × Int->Bool}{h:Hl}(m:zW C N g h)(hN:N<=1000000)(W:World)[i:Has W h]{x:Int × Int}(hx:wf2 x) :
  ∃ W',(Instr.mapUpdate 274 (.map (some C)) (qA x) (.bool true)).run Tryz.prog W=.ok () W'/\Zg W h (λ h'=>zW C (N+1) (Zav g x) h'/\∀ n,n≠C->h' n=h n) W':=by
 obtain⟨es,clock,hb,F,hs,d⟩:=m;have hown:W.ownsMap Tryz.prog 45 boR C N _:=⟨es,clock,i.get _ _ hb,F,hs,rfl⟩
 obtain⟨l,hl⟩:=Zdq hx.1 hx.2;have hmap:=hown.isMap;obtain⟨W',hrun,hown',hg⟩:=hown.update zy Tryz.underlying274 (by unfold maxLen;omega) hl (val:=.bool true) (d:=.held (.bool true)) (ps:=[]) rfl;obtain⟨es',clock',hb',F',hs',e'⟩:=hown';refine⟨W',hrun,Ji i hb hg hb' ⟨⟨es',clock',Hl.put_same ..,F',hs',?_⟩,λ n hn=>Hl.put_other _ _ hn⟩⟩;rw [<-e'];refine⟨λ y l' hl' hy z=>?_,λ y l' hl' hy=>?_⟩
 ·by_cases hyx:y=x
  ·subst hyx;rw [hl]at hl';cases hl';exact Maps.atKey_put_same hmap (zy.key hl) _ _
  ·rw [Zav,if_neg hyx]at hy;rw [Maps.atKey_put_other (ZhB hl hl' hyx)];exact d.at_ y l' hl' hy z
 ·by_cases hyx:y=x
  ·rw [Zav,if_pos hyx]at hy;cases hy
  ·rw [Zav,if_neg hyx]at hy;rw [Maps.has_put_other (ZhB hl hl' hyx)];exact d.non y l' hl' hy
end Go.Proofs.YtlfjdjndhcmliaaGreatDoor
