/- What a reading of the arguments tells: actions. No condition. -/
import Derived.Test.YtfkcpballfhddaaGreatDoorPB
import Derived.Test.YtfkcpballfhddaaGreatDoorSG0ToSNa
set_option linter.unusedSimpArgs false
set_option linter.unusedVariables false
set_option linter.unusedSectionVars false
set_option maxRecDepth 100000
namespace Go.Proofs.YtfkcpballfhddaaGreatDoor
open Go Go.Ab
open Classical
section
variable [Sel] [SelPow] [SelMax]
theorem PQ {n:Nat} {x:AV} (h:WTy Tryz.prog (n+1) 9 x):∃s:Txt,x=.s s:=by
 simp only[WTy,ty9]at h
 obtain⟨s,rfl,_⟩:=h
 exact⟨s,rfl⟩
theorem zeo {n:Nat} {x:AV} (h:WTy Tryz.prog (n+2) 24 x):∃l:List Txt,x=.sl .no (strs l):=by
 rw[WTy]at h
 simp only[zti]at h
 obtain⟨xs,rfl,hlen,h⟩:=h
 obtain⟨l,rfl,_⟩:=pS (α:=Txt) (f:=AV.s) (r:=fun _=>True) h fun y hy=>by obtain⟨s,rfl⟩:=PQ hy;exact⟨s,rfl,trivial⟩
 exact⟨l,rfl⟩
theorem zsI {n:Nat} {x:AV} (h:WTy Tryz.prog (n+2) 136 x):∃s:Txt × Txt,x=WR s:=by
 rw[WTy]at h
 simp only[zs2]at h
 obtain⟨xs,rfl,hlen,h⟩:=h
 match xs,hlen with
 | [a,b],_ =>
  obtain⟨s,rfl⟩:=PQ (h 0 9 a rfl rfl)
  obtain⟨u,rfl⟩:=PQ (h 1 9 b rfl rfl)
  exact⟨(s,u),rfl⟩
theorem zrP {n:Nat} {x:AV} (h:WTy Tryz.prog (n+3) 32 x):∃l:List (Txt × Txt),x=j6 l:=by
 rw[WTy]at h
 simp only[ztx]at h
 obtain⟨xs,rfl,hlen,h⟩:=h
 obtain⟨l,rfl,_⟩:=pS (α:=Txt × Txt) (f:=WR) (r:=fun _=>True) h fun y hy=>by obtain⟨s,rfl⟩:=zsI hy;exact⟨s,rfl,trivial⟩
 exact⟨l,rfl⟩
theorem zrp {n:Nat} {x:AV} (h:WTy Tryz.prog (n+4) 34 x):∃a:wD,x=zI a:=by
 rw[WTy]at h
 simp only[zth]at h
 obtain⟨xs,rfl,hlen,h⟩:=h
 match xs,hlen with
 | [a,b,c,d,e,f],_ =>
  have h0:=h 0 31 a rfl rfl
  obtain⟨tl,rfl⟩:=PQ (h 1 9 b rfl rfl)
  obtain⟨en,rfl⟩:=zrP (h 2 32 c rfl rfl)
  obtain⟨li,rfl⟩:=zeo (h 3 24 d rfl rfl)
  obtain⟨la,rfl⟩:=zeo (h 4 24 e rfl rfl)
  obtain⟨lo,rfl⟩:=zeo (h 5 24 f rfl rfl)
  rw[WTy]at h0
  simp only[zta]at h0
  obtain⟨ys,rfl,hlen0,h0⟩:=h0
  match ys,hlen0 with
  | [p,q],_ =>
   obtain⟨s,rfl⟩:=PQ (h0 0 9 p rfl rfl)
   obtain⟨u,rfl⟩:=PQ (h0 1 9 q rfl rfl)
   exact⟨⟨s,u,tl,en,li,la,lo⟩,rfl⟩
theorem YT:∀l:List Txt,txW l<=Q9 (strs l)
 | []=>by simp[txW]
 | x::l=>by
  have:=YT l
  simp only[strs]at this
  simp only[txW,strs,List.map_cons,Q9,yD];omega
theorem zbS:∀l:List (Txt × Txt),enW l<=Q9 (l.map WR)
 | []=>by simp[enW]
 | x::l=>by
  have:=zbS l
  simp only[enW,List.map_cons,WR,Q9,yD];omega
theorem zox (a:wD):znq a<=yD (zI a):=by
 have h1:=YT a.ins
 have h2:=YT a.asks
 have h3:=YT a.outs
 have h4:=zbS a.env
 simp only[znq,zI,j6,yD,Q9];omega
theorem zsF {n:Nat} {x:AV} (h:WTy Tryz.prog (n+2) 57 x):∃f:jM,x=qS f:=by
 rw[WTy]at h
 simp only[ztF]at h
 obtain⟨xs,rfl,hlen,h⟩:=h
 match xs,hlen with
 | [a,b],_ =>
  obtain⟨s,rfl⟩:=PQ (h 0 9 a rfl rfl)
  obtain⟨u,rfl⟩:=PQ (h 1 9 b rfl rfl)
  exact⟨⟨s,u⟩,rfl⟩
theorem zrA {n:Nat} {x:AV} (h:WTy Tryz.prog (n+3) 22 x):∃l:List jM,x=qH l:=by
 rw[WTy]at h
 simp only[ztE]at h
 obtain⟨xs,rfl,hlen,h⟩:=h
 obtain⟨l,rfl,_⟩:=pS (α:=jM) (f:=qS) (r:=fun _=>True) h fun y hy=>by obtain⟨s,rfl⟩:=zsF hy;exact⟨s,rfl,trivial⟩
 exact⟨l,rfl⟩
theorem zaC:∀l:List jM,flW l<=Q9 (l.map qS)
 | []=>by simp[flW]
 | x::l=>by
  have:=zaC l
  simp only[flW,List.map_cons,qS,Q9,yD];omega
theorem znJ (l:List jM):flW l<=yD (qH l):=by
 have h1:=zaC l
 simp only[qH,yD];omega
theorem zq7 {n:Nat} {x:AV} (h:WTy Tryz.prog (n+5) 23 x):∃l:List wD,x=jC l:=by
 rw[WTy]at h
 simp only[ztC]at h
 obtain⟨xs,rfl,hlen,h⟩:=h
 obtain⟨l,rfl,_⟩:=pS (α:=wD) (f:=zI) (r:=fun _=>True) h fun y hy=>by obtain⟨s,rfl⟩:=zrp hy;grind
 exact⟨l,rfl⟩
theorem za7 {n:Nat} {x:AV} (h:WTy Tryz.prog (n+6) 26 x):∃w:qQ,x=j7 w:=by
 rw[WTy]at h
 simp only[zmz]at h
 obtain⟨xs,rfl,hlen,h⟩:=h
 match xs,hlen with
 | [a,b,c,d],_ =>
  obtain⟨f,rfl⟩:=zrA (h 0 22 a rfl rfl)
  obtain⟨l,rfl⟩:=zq7 (h 1 23 b rfl rfl)
  obtain⟨t,rfl⟩:=zeo (h 2 24 c rfl rfl)
  have h2:=h 3 4 d rfl rfl
  simp only[WTy,ty4]at h2
  obtain⟨q,rfl⟩:=h2
  exact⟨⟨f,l,t,q⟩,rfl⟩
structure WkW (w:qQ) (B:Nat):Prop where
 f:flW w.files<=B
 a:∀a∈w.acts,znq a<=B
 n:w.acts.length<=B
 w:txW w.wants<=B
theorem VN (w:qQ):WkW w (yD (j7 w)):=by
 have h1:=znJ w.files
 have h2:=YT w.wants
 have h3:yD (j7 w)=yD (qH w.files)+(Q9 (w.acts.map zI)+1+(Q9 (strs w.wants)+1+(yD (.b w.keep)+0)))+1:=rfl
 have h4:∀l:List wD,l.length<=Q9 (l.map zI):=fun l=>by
  induction l with
  | nil=>simp
  | cons x l ih =>
   grind [yD,zI,Q9]
 have h5:=h4 w.acts
 refine⟨by omega,fun a ha=>?_,by omega,by omega⟩
 have h6:=zox a
 have h7:=zbD (List.mem_map.2 ⟨a,ha,rfl⟩:zI a∈w.acts.map zI)
 omega
theorem WkW.b {w:qQ} {B:Nat} (h:WkW w B) (hB:B<=1048576):WkB w:=by
 have h1:=ze9 w.files
 have h2:=zei w.wants
 refine⟨fun f hf=>?_,by have:=h.f;omega,by have:=h.n;omega,fun a ha=>?_,by have:=h.w;omega⟩
 ·have:=zj4 hf
  have:=h.f
  omega
 ·have h3:=h.a a ha
  grind [zei,zjC,znq]
theorem zpq {l:List wD} {a:wD} (h:a∈l):acN a<=acG l:=by
 induction l with
 | nil=>cases h
 | cons x l ih =>
  simp only[acG]
  grind
theorem WkW.c {w:qQ} {B:Nat} (h:WkW w B) (hB:B<=1048576) (hg:ZE w=false):WkC w:=by
 unfold ZE at hg
 simp only[Bool.or_eq_false_iff,decide_eq_false_iff_not]at hg
 obtain⟨⟨g1,g2⟩,g3⟩:=hg
 have h1:=ze9 w.files
 have h0:=h.f
 refine⟨fun f hf=>?_,by omega,fun a ha=>?_,by omega,fun p hp=>?_,by omega⟩
 ·have:=zj4 hf
  omega
 ·have h2:=zpq ha
  have h3:=h.a a ha
  unfold acN at h2
  unfold znq at h3
  refine⟨⟨by omega,by omega,fun x hx=>?_,by omega,by omega,fun x hx=>?_,by omega⟩,fun p hp=>?_,fun p hp=>?_⟩
  ·have:=zpW hx;omega
  ·have:=za5 hx;omega
  ·have:=za5 hp;omega
  ·have:=za5 hp;omega
 ·have:=za5 hp
  have:=h.w
  omega
end
end Go.Proofs.YtfkcpballfhddaaGreatDoor
