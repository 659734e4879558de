/- What a reading of the arguments tells: actions. No condition. -/
import Derived.Test.YtdkieabmeiojjaaGreatDoorPB
set_option linter.unusedSimpArgs false
set_option linter.unusedVariables false
set_option linter.unusedSectionVars false
set_option maxRecDepth 100000
namespace Go.Proofs.YtdkieabmeiojjaaGreatDoor
open Go Go.Ab
open Classical
section
variable [Sel] [SelPow] [SelMax]
theorem zrk {n:Nat} {x:AV} (h:WTy Tryz.prog (n+1) 9 x):∃s:Txt,x=.s s:=by
 simp only[WTy,ty9]at h
 obtain⟨s,rfl,_⟩:=h
 exact⟨s,rfl⟩
theorem zrP {n:Nat} {x:AV} (h:WTy Tryz.prog (n+2) 35 x):∃l:List Txt,x=.sl .no (strs l):=by
 rw[WTy]at h
 simp only[ztE]at h
 obtain⟨xs,rfl,hlen,h⟩:=h
 obtain⟨l,rfl,_⟩:=uO (α:=Txt) (f:=AV.s) (r:=fun _=>True) h fun y hy=>by obtain⟨s,rfl⟩:=zrk hy;exact⟨s,rfl,trivial⟩
 exact⟨l,rfl⟩
theorem ztw {n:Nat} {x:AV} (h:WTy Tryz.prog (n+2) 134 x):∃s:Txt × Txt,x=x4 s:=by
 rw[WTy]at h
 simp only[ztr]at h
 obtain⟨xs,rfl,hlen,h⟩:=h
 match xs,hlen with
 | [a,b],_ =>
  obtain⟨s,rfl⟩:=zrk (h 0 9 a rfl rfl)
  obtain⟨u,rfl⟩:=zrk (h 1 9 b rfl rfl)
  exact⟨(s,u),rfl⟩
theorem ztk {n:Nat} {x:AV} (h:WTy Tryz.prog (n+3) 47 x):∃l:List (Txt × Txt),x=zO l:=by
 rw[WTy]at h
 simp only[ztD]at h
 obtain⟨xs,rfl,hlen,h⟩:=h
 obtain⟨l,rfl,_⟩:=uO (α:=Txt × Txt) (f:=x4) (r:=fun _=>True) h fun y hy=>by obtain⟨s,rfl⟩:=ztw hy;exact⟨s,rfl,trivial⟩
 exact⟨l,rfl⟩
theorem ztm {n:Nat} {x:AV} (h:WTy Tryz.prog (n+4) 49 x):∃a:QT,x=wW a:=by
 rw[WTy]at h
 simp only[ztG]at h
 obtain⟨xs,rfl,hlen,h⟩:=h
 match xs,hlen with
 | [a,b,c,d,e,f],_ =>
  have h0:=h 0 46 a rfl rfl
  obtain⟨tl,rfl⟩:=zrk (h 1 9 b rfl rfl)
  obtain⟨en,rfl⟩:=ztk (h 2 47 c rfl rfl)
  obtain⟨li,rfl⟩:=zrP (h 3 35 d rfl rfl)
  obtain⟨la,rfl⟩:=zrP (h 4 35 e rfl rfl)
  obtain⟨lo,rfl⟩:=zrP (h 5 35 f rfl rfl)
  rw[WTy]at h0
  simp only[ztC]at h0
  obtain⟨ys,rfl,hlen0,h0⟩:=h0
  match ys,hlen0 with
  | [p,q],_ =>
   obtain⟨s,rfl⟩:=zrk (h0 0 9 p rfl rfl)
   obtain⟨u,rfl⟩:=zrk (h0 1 9 q rfl rfl)
   exact⟨⟨s,u,tl,en,li,la,lo⟩,rfl⟩
theorem zqS:∀l:List Txt,txW l<=V1 (strs l)
 | []=>by simp[txW]
 | x::l=>by
  have:=zqS l
  simp only[strs]at this
  simp only[txW,strs,List.map_cons,V1,WP];omega
theorem zrw:∀l:List (Txt × Txt),enW l<=V1 (l.map x4)
 | []=>by simp[enW]
 | x::l=>by
  have:=zrw l
  simp only[enW,List.map_cons,x4,V1,WP];omega
theorem zsV (a:QT):zsL a<=WP (wW a):=by
 have h1:=zqS a.ins
 have h2:=zqS a.asks
 have h3:=zqS a.outs
 have h4:=zrw a.env
 simp only[zsL,wW,zO,WP,V1];omega
theorem ztv {n:Nat} {x:AV} (h:WTy Tryz.prog (n+2) 43 x):∃f:jK,x=zK f:=by
 rw[WTy]at h
 simp only[zqA]at h
 obtain⟨xs,rfl,hlen,h⟩:=h
 match xs,hlen with
 | [a,b],_ =>
  obtain⟨s,rfl⟩:=zrk (h 0 9 a rfl rfl)
  obtain⟨u,rfl⟩:=zrk (h 1 9 b rfl rfl)
  exact⟨⟨s,u⟩,rfl⟩
theorem ztl {n:Nat} {x:AV} (h:WTy Tryz.prog (n+3) 24 x):∃l:List jK,x=qL l:=by
 rw[WTy]at h
 simp only[zqj]at h
 obtain⟨xs,rfl,hlen,h⟩:=h
 obtain⟨l,rfl,_⟩:=uO (α:=jK) (f:=zK) (r:=fun _=>True) h fun y hy=>by obtain⟨s,rfl⟩:=ztv hy;exact⟨s,rfl,trivial⟩
 exact⟨l,rfl⟩
theorem zrs:∀l:List jK,flW l<=V1 (l.map zK)
 | []=>by simp[flW]
 | x::l=>by
  have:=zrs l
  simp only[flW,List.map_cons,zK,V1,WP];omega
theorem zt0 (l:List jK):flW l<=WP (qL l):=by
 have h1:=zrs l
 simp only[qL,WP];omega
theorem zte {n:Nat} {x:AV} (h:WTy Tryz.prog (n+5) 34 x):∃l:List QT,x=jP l:=by
 rw[WTy]at h
 simp only[ztF]at h
 obtain⟨xs,rfl,hlen,h⟩:=h
 obtain⟨l,rfl,_⟩:=uO (α:=QT) (f:=wW) (r:=fun _=>True) h fun y hy=>by obtain⟨s,rfl⟩:=ztm hy;grind
 exact⟨l,rfl⟩
theorem zt5 {n:Nat} {x:AV} (h:WTy Tryz.prog (n+6) 37 x):∃w:zV,x=yV w:=by
 rw[WTy]at h
 simp only[ztx]at h
 obtain⟨xs,rfl,hlen,h⟩:=h
 match xs,hlen with
 | [a,b,c,d],_ =>
  obtain⟨f,rfl⟩:=ztl (h 0 24 a rfl rfl)
  obtain⟨l,rfl⟩:=zte (h 1 34 b rfl rfl)
  obtain⟨t,rfl⟩:=zrP (h 2 35 c rfl rfl)
  have h2:=h 3 4 d rfl rfl
  simp only[WTy,ty4]at h2
  obtain⟨q,rfl⟩:=h2
  exact⟨⟨f,l,t,q⟩,rfl⟩
structure WkW (w:zV) (B:Nat):Prop where
 f:flW w.files<=B
 a:∀a∈w.acts,zsL a<=B
 n:w.acts.length<=B
 w:txW w.wants<=B
theorem zsw (w:zV):WkW w (WP (yV w)):=by
 have h1:=zt0 w.files
 have h2:=zqS w.wants
 have h3:WP (yV w)=WP (qL w.files)+(V1 (w.acts.map wW)+1+(V1 (strs w.wants)+1+(WP (.b w.keep)+0)))+1:=rfl
 have h4:∀l:List QT,l.length<=V1 (l.map wW):=fun l=>by
  induction l with
  | nil=>simp
  | cons x l ih =>
   grind [WP,wW,V1]
 have h5:=h4 w.acts
 refine⟨by omega,fun a ha=>?_,by omega,by omega⟩
 have h6:=zsV a
 have h7:=zrr (List.mem_map.2 ⟨a,ha,rfl⟩:wW a∈w.acts.map wW)
 omega
theorem WkW.b {w:zV} {B:Nat} (h:WkW w B) (hB:B<=1048576):WkB w:=by
 have h1:=zrR w.files
 have h2:=zrN w.wants
 refine⟨fun f hf=>?_,by have:=h.f;omega,by have:=h.n;omega,fun a ha=>?_,by have:=h.w;omega⟩
 ·have:=zsk hf
  have:=h.f
  omega
 ·have h3:=h.a a ha
  grind [zrN,zsr,zsL]
theorem ztb {l:List QT} {a:QT} (h:a∈l):acN a<=acG l:=by
 induction l with
 | nil=>cases h
 | cons x l ih =>
  simp only[acG]
  grind
theorem WkW.c {w:zV} {B:Nat} (h:WkW w B) (hB:B<=1048576) (hg:zr0 w=false):WkC w:=by
 unfold zr0 at hg
 simp only[Bool.or_eq_false_iff,decide_eq_false_iff_not]at hg
 obtain⟨⟨g1,g2⟩,g3⟩:=hg
 have h1:=zrR w.files
 have h0:=h.f
 refine⟨fun f hf=>?_,by omega,fun a ha=>?_,by omega,fun p hp=>?_,by omega⟩
 ·have:=zsk hf
  omega
 ·have h2:=ztb ha
  have h3:=h.a a ha
  unfold acN at h2
  unfold zsL at h3
  refine⟨⟨by omega,by omega,fun x hx=>?_,by omega,by omega,fun x hx=>?_,by omega⟩,fun p hp=>?_,fun p hp=>?_⟩
  ·have:=zt9 hx;omega
  ·have:=zrp hx;omega
  ·have:=zrp hp;omega
  ·have:=zrp hp;omega
 ·have:=zrp hp
  have:=h.w
  omega
end
end Go.Proofs.YtdkieabmeiojjaaGreatDoor
