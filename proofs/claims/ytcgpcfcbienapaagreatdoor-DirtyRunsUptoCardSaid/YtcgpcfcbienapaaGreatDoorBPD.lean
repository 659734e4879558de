/- What a reading of the arguments tells: actions, what is known. No condition beyond each theorem's own. -/
import Derived.Test.YtcgpcfcbienapaaGreatDoorPB
import Derived.Test.YtcgpcfcbienapaaGreatDoorBR0ToS8
set_option linter.unusedSimpArgs false
set_option linter.unusedVariables false
set_option linter.unusedSectionVars false
set_option maxRecDepth 100000
/-! What a reading of the arguments tells: actions, what is known. -/
namespace Go.Proofs.YtcgpcfcbienapaaGreatDoor
open Go Go.Ab
open Classical
variable [Sel] [SelPow] [SelMax]

theorem GL {n:Nat} {x:AV} (h:WTy Tryz.prog (n+1) 9 x):∃s:Txt,x=.s s:=by
 simp only[WTy,ty9]at h
 obtain⟨s,rfl,_⟩:=h
 exact⟨s,rfl⟩
theorem zeH {n:Nat} {x:AV} (h:WTy Tryz.prog (n+2) 25 x):∃l:List Txt,x=.sl .no (strs l):=by
 rw[WTy]at h
 simp only[zse]at h
 obtain⟨xs,rfl,hlen,h⟩:=h
 obtain⟨l,rfl,_⟩:=DU (α:=Txt) (f:=AV.s) (r:=fun _=>True) h fun y hy=>by obtain⟨s,rfl⟩:=GL hy;exact⟨s,rfl,trivial⟩
 exact⟨l,rfl⟩
theorem zpr {n:Nat} {x:AV} (h:WTy Tryz.prog (n+2) 84 x):∃s:Txt × Txt,x=Z7 s:=by
 rw[WTy]at h
 simp only[zGx]at h
 obtain⟨xs,rfl,hlen,h⟩:=h
 match xs,hlen with
 | [a,b],_ =>
  obtain⟨s,rfl⟩:=GL (h 0 9 a rfl rfl)
  obtain⟨u,rfl⟩:=GL (h 1 9 b rfl rfl)
  exact⟨(s,u),rfl⟩
theorem zoh {n:Nat} {x:AV} (h:WTy Tryz.prog (n+3) 24 x):∃l:List (Txt × Txt),x=zS l:=by
 rw[WTy]at h
 simp only[zrx]at h
 obtain⟨xs,rfl,hlen,h⟩:=h
 obtain⟨l,rfl,_⟩:=DU (α:=Txt × Txt) (f:=Z7) (r:=fun _=>True) h fun y hy=>by obtain⟨s,rfl⟩:=zpr hy;exact⟨s,rfl,trivial⟩
 exact⟨l,rfl⟩
theorem zfh {n:Nat} {x:AV} (h:WTy Tryz.prog (n+4) 27 x):∃a:xW,x=kT a:=by
 rw[WTy]at h
 simp only[zkh]at h
 obtain⟨xs,rfl,hlen,h⟩:=h
 match xs,hlen with
 | [a,b,c,d,e,f],_ =>
  have h0:=h 0 23 a rfl rfl
  obtain⟨tl,rfl⟩:=GL (h 1 9 b rfl rfl)
  obtain⟨en,rfl⟩:=zoh (h 2 24 c rfl rfl)
  obtain⟨li,rfl⟩:=zeH (h 3 25 d rfl rfl)
  obtain⟨la,rfl⟩:=zeH (h 4 25 e rfl rfl)
  obtain⟨lo,rfl⟩:=zeH (h 5 25 f rfl rfl)
  rw[WTy]at h0
  simp only[zrY]at h0
  obtain⟨ys,rfl,hlen0,h0⟩:=h0
  match ys,hlen0 with
  | [p,q],_ =>
   obtain⟨s,rfl⟩:=GL (h0 0 9 p rfl rfl)
   obtain⟨u,rfl⟩:=GL (h0 1 9 q rfl rfl)
   exact⟨⟨s,u,tl,en,li,la,lo⟩,rfl⟩
theorem zna {n:Nat} {x:AV} (h:WTy Tryz.prog (n+2) 33 x):∃k:KnV,x=zH k:=by
 rw[WTy]at h
 simp only[ztQ]at h
 obtain⟨xs,rfl,hlen,h⟩:=h
 match xs,hlen with
 | [a,b,c],_ =>
  obtain⟨s,rfl⟩:=GL (h 0 9 a rfl rfl)
  have h2:=h 1 4 b rfl rfl
  simp only[WTy,ty4]at h2
  obtain⟨q,rfl⟩:=h2
  obtain⟨u,rfl⟩:=GL (h 2 9 c rfl rfl)
  exact⟨⟨s,q,u⟩,rfl⟩
theorem zbJ {n:Nat} {x:AV} (h:WTy Tryz.prog (n+3) 28 x):∃l:List KnV,x=zL l:=by
 rw[WTy]at h
 simp only[zmf]at h
 obtain⟨xs,rfl,hlen,h⟩:=h
 obtain⟨l,rfl,_⟩:=DU (α:=KnV) (f:=zH) (r:=fun _=>True) h fun y hy=>by obtain⟨s,rfl⟩:=zna hy;exact⟨s,rfl,trivial⟩
 exact⟨l,rfl⟩
theorem xM:∀l:List Txt,txW l≤ZD (strs l)
 | []=>by simp[txW]
 | x::l=>by
  have:=xM l
  simp only[strs]at this
  simp only[txW,strs,List.map_cons,ZD,QJ];omega
theorem D2:∀l:List (Txt × Txt),enW l≤ZD (l.map Z7)
 | []=>by simp[enW]
 | x::l=>by
  have:=D2 l
  simp only[enW,List.map_cons,Z7,ZD,QJ];omega
theorem DD:∀l:List KnV,knW l≤ZD (l.map zH)
 | []=>by simp[knW]
 | x::l=>by
  have:=DD l
  simp only[knW,List.map_cons,zH,ZD,QJ];omega
theorem dZ (a:xW):vA a≤QJ (kT a):=by
 have h1:=xM a.ins
 have h2:=xM a.asks
 have h3:=xM a.outs
 have h4:=D2 a.env
 simp only[vA,kT,zS,QJ,ZD];omega
theorem V1 (l:List KnV):knW l≤QJ (zL l):=by
 have h1:=DD l
 simp only[zL,QJ];omega
end Go.Proofs.YtcgpcfcbienapaaGreatDoor
