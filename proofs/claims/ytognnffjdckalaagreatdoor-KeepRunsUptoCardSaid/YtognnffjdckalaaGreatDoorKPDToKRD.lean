/- What a reading of the arguments tells: what is to be kept. No condition. -/
import Derived.Test.YtognnffjdckalaaGreatDoorPB
import Derived.Test.YtognnffjdckalaaGreatDoorKRBToKRC
set_option linter.unusedSimpArgs false
set_option linter.unusedVariables false
set_option linter.unusedSectionVars false
set_option maxRecDepth 100000
namespace Go.Proofs.YtognnffjdckalaaGreatDoor
open Go Go.Ab
open Classical
section
variable [Sel] [SelPow] [SelErr]
theorem znT {n:Nat} {x:AV} (h:WTy Tryz.prog (n+2) 73 x):∃f:zV,x=zC f:=by
 rw[WTy]at h
 simp only[zty]at h
 obtain⟨xs,rfl,hlen,h⟩:=h
 match xs,hlen with
 | [a,b],_ =>
  have h0:=h 0 9 a rfl rfl
  have h1:=h 1 9 b rfl rfl
  simp only[WTy,ty9]at h0 h1
  obtain⟨s,rfl,_⟩:=h0
  obtain⟨u,rfl,_⟩:=h1
  exact⟨⟨s,u⟩,rfl⟩
theorem zkv {n:Nat} {x:AV} (h:WTy Tryz.prog (n+3) 44 x):∃l:List zV,x=zI l:=by
 rw[WTy]at h
 simp only[ztb]at h
 obtain⟨xs,rfl,hlen,h⟩:=h
 obtain⟨l,rfl,_⟩:=U0 (α:=zV) (f:=zC) (r:=fun _=>True) h fun y hy=>by obtain⟨s,rfl⟩:=znT hy;exact⟨s,rfl,trivial⟩
 exact⟨l,rfl⟩
def zsa (o:WA):Prop:=(∀r∈o.reads,r.sum.length=32)/\0<=o.key/\o.key<256
theorem zqP {n:Nat} {x:AV} (h:WTy Tryz.prog (n+5) 46 x):∃o:WA,x=y4 o/\zsa o:=by
 rw[WTy]at h
 simp only[ztw]at h
 obtain⟨xs,rfl,hlen,h⟩:=h
 match xs,hlen with
 | [a,b,c,d],_ =>
  have h0:=h 0 5 a rfl rfl
  obtain⟨rs,rfl,_,h2⟩:=zmu (h 1 43 b rfl rfl)
  obtain⟨fs,rfl⟩:=zkv (h 2 44 c rfl rfl)
  have h3:=h 3 5 d rfl rfl
  simp only[WTy,ty5]at h0 h3
  obtain⟨m,rfl,hm⟩:=h0
  obtain⟨k,rfl,_⟩:=h3
  have hx:0<=m/\m<=255:=by simpa[Lit.wf,IntKind.min,IntKind.max,IntKind.signed,IntKind.bits]using hm
  exact⟨⟨m,rs,fs,k⟩,rfl,fun r hr=>(h2 r hr).1,hx.1,by simp only;omega⟩
theorem zso {n:Nat} {x:AV} (h:WTy Tryz.prog (n+1) 5 x):∃m:Int,x=.i .u8 m/\0<=m/\m<256:=by
 simp only[WTy,ty5]at h
 obtain⟨m,rfl,hm⟩:=h
 have hx:0<=m/\m<=255:=by simpa[Lit.wf,IntKind.min,IntKind.max,IntKind.signed,IntKind.bits]using hm
 exact⟨m,rfl,hx.1,by omega⟩
theorem zpL {n:Nat} {x:AV} (h:WTy Tryz.prog (n+2) 47 x):∃l:List Int,x=JX l/\l.length<=maxLen:=by
 rw[WTy]at h
 simp only[ztB]at h
 obtain⟨xs,rfl,hlen,h⟩:=h
 obtain⟨l,rfl,_⟩:=U0 (α:=Int) (f:=fun m=>AV.i .i64 m) (r:=fun _=>True) h fun y hy=>by
  simp only[WTy,ty3]at hy
  obtain⟨m,rfl,_⟩:=hy
  exact⟨m,rfl,trivial⟩
 exact⟨l,rfl,by simpa using hlen⟩
theorem dI:∀l:List zV,szO l<=Z6 (l.map zC)
 | []=>by simp[szO]
 | f::l=>by
  have:=dI l
  simp only[szO,List.map_cons,List.sum_cons,zC,Z6,JJ]at this |-;omega
theorem DG:∀l:List yH,szR l<=11*Z6 (l.map qV)
 | []=>by simp[szR]
 | f::l=>by
  have:=DG l
  simp only[szR,List.map_cons,List.sum_cons,qV,Z6,JJ]at this |-;omega
theorem zpN {n:Nat} {x:AV} (h:WTy Tryz.prog (n+6) 49 x):∃a:V4,x=jU a/\zlF a:=by
 rw[WTy]at h
 simp only[ztp]at h
 obtain⟨xs,rfl,hlen,h⟩:=h
 match xs,hlen with
 | [a,b,c,d],_ =>
  have h0:=h 0 3 a rfl rfl
  have h1:=h 1 3 b rfl rfl
  obtain⟨o,rfl,ho1,ho2,ho3⟩:=zqP (h 2 46 c rfl rfl)
  obtain⟨ps,rfl,_⟩:=zpL (h 3 47 d rfl rfl)
  simp only[WTy,ty3]at h0 h1
  obtain⟨m,rfl,_⟩:=h0
  obtain⟨k,rfl,hk⟩:=h1
  have hx:k<=9223372036854775807:=by
   have:-9223372036854775808<=k/\k<=9223372036854775807:=by simpa[Lit.wf,IntKind.min,IntKind.max,IntKind.signed,IntKind.bits]using hk
   exact this.2
  exact⟨⟨m,k,o,ps⟩,rfl,⟨ho1,ho2,ho3,hx⟩⟩
theorem zmK {n:Nat} {x:AV} (h:WTy Tryz.prog (n+7) 22 x):∃l:List V4,x=.sl .no (l.map jU)/\∀a∈l,zlF a:=by
 rw[WTy]at h
 simp only[zsx]at h
 obtain⟨xs,rfl,hlen,h⟩:=h
 obtain⟨l,rfl,h2⟩:=U0 h fun y hy=>zpN hy
 exact⟨l,rfl,h2⟩
theorem zaF:∀l:List Int,l.length<=Z6 (l.map fun n=>AV.i .i64 n)
 | []=>by simp
 | f::l=>by
  have:=zaF l
  simp only[List.map_cons,List.length_cons,Z6,JJ]at this |-;omega
theorem C1:∀l:List V4,JR l<=12*Z6 (l.map jU)
 | []=>by simp[JR]
 | a::l=>by
  have h0:=C1 l
  have h1:=zaF a.picks
  have h2:=dI a.one.outs
  have h3:=DG a.one.reads
  simp only[JR,szA,List.map_cons,List.sum_cons,jU,JX,y4,qE,zI,Z6,JJ]at h0 |-
  omega
end
end Go.Proofs.YtognnffjdckalaaGreatDoor
