/- What a reading of the arguments tells: what is to be kept. No condition beyond each theorem's own. -/
import Derived.Test.YtcioeonlclpacaaGreatDoorPDToP42
import Derived.Test.YtcioeonlclpacaaGreatDoorPB
import Derived.Test.YtcioeonlclpacaaGreatDoorKL3ToI1a
set_option linter.unusedSimpArgs false
set_option linter.unusedVariables false
set_option linter.unusedSectionVars false
section
set_option maxRecDepth 100000
namespace Go.Proofs.YtcioeonlclpacaaGreatDoor
open Go Go.Ab
open Classical
variable [Sel] [SelPow] [SelErr]
theorem zQc {n:Nat} {x:AV} (h:WTy Tryz.prog (n+2) 36 x):∃f:U1,x=jZ f:=by
 rw[WTy]at h
 simp only[zTi]at h
 obtain⟨xs,rfl,hlen,h⟩:=h
 match xs,hlen with
 | [a,b],_ =>
  have h0:=h 0 9 a rfl rfl
  have h1:=h 1 9 b rfl rfl
  simp only[WTy,ty9]at h0 h1
  obtain⟨s,rfl,_⟩:=h0
  obtain⟨u,rfl,_⟩:=h1
  exact⟨⟨s,u⟩,rfl⟩
theorem zPu {n:Nat} {x:AV} (h:WTy Tryz.prog (n+3) 27 x):∃l:List U1,x=zU l:=by
 rw[WTy]at h
 simp only[zkh]at h
 obtain⟨xs,rfl,hlen,h⟩:=h
 obtain⟨l,rfl,_⟩:=DU (α:=U1) (f:=jZ) (r:=fun _=>True) h fun y hy=>by obtain⟨s,rfl⟩:=zQc hy;exact⟨s,rfl,trivial⟩
 exact⟨l,rfl⟩
def zSf (o:zJk):Prop:=(∀r∈o.reads,r.sum.length=32)∧0≤o.key∧o.key<256
theorem zSl {n:Nat} {x:AV} (h:WTy Tryz.prog (n+5) 29 x):∃o:zJk,x=y3 o∧zSf o:=by
 rw[WTy]at h
 simp only[zTj]at h
 obtain⟨xs,rfl,hlen,h⟩:=h
 match xs,hlen with
 | [a,b,c,d],_ =>
  have h0:=h 0 5 a rfl rfl
  obtain⟨rs,rfl,_,h2⟩:=zQB (h 1 26 b rfl rfl)
  obtain⟨fs,rfl⟩:=zPu (h 2 27 c rfl rfl)
  have h3:=h 3 5 d rfl rfl
  simp only[WTy,ty5]at h0 h3
  obtain⟨m,rfl,hm⟩:=h0
  obtain⟨k,rfl,_⟩:=h3
  have hx:0≤m∧m≤255:=by simpa[Lit.wf,IntKind.min,IntKind.max,IntKind.signed,IntKind.bits]using hm
  exact⟨⟨m,rs,fs,k⟩,rfl,fun r hr=>(h2 r hr).1,hx.1,by simp only;omega⟩
theorem zRT {n:Nat} {x:AV} (h:WTy Tryz.prog (n+6) 22 x):∃l:List zJk,x=.sl .no (l.map y3)∧l.length≤maxLen∧∀o∈l,zSf o:=by
 rw[WTy]at h
 simp only[zSS]at h
 obtain⟨xs,rfl,hlen,h⟩:=h
 obtain⟨l,rfl,h2⟩:=DU h fun y hy=>zSl hy
 exact⟨l,rfl,by simpa using hlen,h2⟩
theorem zSP {n:Nat} {x:AV} (h:WTy Tryz.prog (n+1) 5 x):∃m:Int,x=.i .u8 m∧0≤m∧m<256:=by
 simp only[WTy,ty5]at h
 obtain⟨m,rfl,hm⟩:=h
 have hx:0≤m∧m≤255:=by simpa[Lit.wf,IntKind.min,IntKind.max,IntKind.signed,IntKind.bits]using hm
 exact⟨m,rfl,hx.1,by omega⟩
theorem zS9 {n:Nat} {x:AV} (h:WTy Tryz.prog (n+2) 23 x):∃l:List Int,x=zJY l∧l.length≤maxLen:=by
 rw[WTy]at h
 simp only[zrY]at h
 obtain⟨xs,rfl,hlen,h⟩:=h
 obtain⟨l,rfl,_⟩:=DU (α:=Int) (f:=fun m=>AV.i .i64 m) (r:=fun _=>True) h fun y hy=>by
  simp only[WTy,ty3]at hy
  obtain⟨m,rfl,_⟩:=hy
  exact⟨m,rfl,trivial⟩
 exact⟨l,rfl,by simpa using hlen⟩
theorem zLF:∀l:List U1,szO l≤ZD (l.map jZ)
 | []=>by simp[szO]
 | f::l=>by
  have:=zLF l
  simp only[szO,List.map_cons,List.sum_cons,jZ,ZD,QJ]at this ⊢;omega
theorem zLC:∀l:List XF,szR l≤11*ZD (l.map qI)
 | []=>by simp[szR]
 | f::l=>by
  have:=zLC l
  simp only[szR,List.map_cons,List.sum_cons,qI,ZD,QJ]at this ⊢;omega
theorem zOI {l:List zJk} {N:Nat} (h:QJ (.sl .no (l.map y3))≤N):∀o∈l,szO o.outs+szR o.reads≤12*N:=by
 intro o ho
 have h1:=zMl (List.mem_map.2 ⟨o,ho,rfl⟩:y3 o∈l.map y3)
 have h2:=zLF o.outs
 have h3:=zLC o.reads
 simp only[QJ]at h
 simp only[y3,qF,zU,QJ,ZD]at h1
 omega
theorem zWP {n:Nat} {x:AV} (h:WTy Tryz.prog (n+2) 62 x):∃a b:Int,x=.agg [.i .u8 a,.i .u8 b]∧(0≤a∧a<256)∧0≤b∧b<256:=by
 rw[WTy]at h
 simp only[zX6]at h
 obtain⟨xs,rfl,hlen,h⟩:=h
 match xs,hlen with
 | [a,b],_ =>
  obtain⟨m,rfl,hm⟩:=zSP (h a (by simp))
  obtain⟨k,rfl,hk⟩:=zSP (h b (by simp))
  exact⟨m,k,rfl,hm,hk⟩
end Go.Proofs.YtcioeonlclpacaaGreatDoor
end
