/- A tool comes to an end: plain. No condition. -/
import Derived.Test.YtfkcpballfhddaaGreatDoorQ0ToK5
import Derived.Lib.ItoaLen
set_option linter.unusedSimpArgs false
set_option linter.unusedVariables false
set_option linter.unusedSectionVars false
set_option maxRecDepth 100000
namespace Go.Proofs.YtfkcpballfhddaaGreatDoor
open Go Go.Ab
open Classical
variable [Sel] [SelPow] [SelMax]
def dn (k:KnV):Nat:=if k.is=true then(qZ k.data).length else 0
def kW (k:KnV):Nat:=dn k+1
def nlW (kn:List KnV) (p:Txt):Nat:=match jR kn p with
 | some k=>dn k
 | none=>0
def itW (kn:List KnV):TdV->Nat
 | .cmd _=>0
 | .ans (.there (.scan _)) p=>1+nlW kn p
 | .ans _ _=>1
 | .line _ _=>1
def XD (kn:List KnV):List TdV->Nat
 | []=>0
 | t::l=>itW kn t+XD kn l
def pX:List KnV->Nat
 | []=>0
 | k::l=>kW k+pX l
noncomputable def XO:List KnV->List Txt->Nat
 | [],_=>0
 | k::l,s=>(if k.path∈s then 0 else kW k)+XO l s
def isC:TdV->Bool
 | .cmd _=>true
 | _=>false
theorem xC (kn:List KnV):∀a b:List TdV,XD kn (a++b)=XD kn a+XD kn b
 | [],b=>by simp[XD]
 | t::a,b=>by simp only[List.cons_append,XD,xC kn a b];omega
theorem GX (kn:List KnV) (w:Txt):∀l:List Txt,XD kn (l.map fun s=>.line s w)=l.length
 | []=>rfl
 | s::l=>by simp only[List.map_cons,XD,itW,GX kn w l,List.length_cons];omega
theorem VQ (kn:List KnV):∀l:List TdV,(∀t∈l,isC t=true)->XD kn l=0
 | [],_=>rfl
 | t::l,h=>by
  have h1:=h t (by simp)
  cases t<;>simp[isC]at h1
  simp only[XD,itW,VQ kn l fun x hx=>h x (by simp[hx])]
theorem cA (kn:List KnV):∀l:List TdV,l.length<=l.countP isC+XD kn l
 | []=>by simp
 | t::l=>by
  have:=cA kn l
  rw[List.countP_cons]
  simp only[XD,List.length_cons]
  cases t with
  | cmd c=>simp only[isC,itW,if_true];omega
  | ans k p =>
   cases k with
   | there t=>cases t<;>simp only[isC,itW]<;>simp<;>omega
   | tr=>grind [itW]
  | line s w=>grind [itW]
theorem zen:∀(kn:List KnV) (s:List Txt),XO kn s<=pX kn
 | [],_=>by simp[XO]
 | k::l,s=>by
  have:=zen l s
  simp only[XO,pX]
  split<;>omega
theorem uS (p:Txt) (s:List Txt):∀kn:List KnV,XO kn (s++[p])<=XO kn s
 | []=>by simp[XO]
 | k::l=>by
  have:=uS p s l
  simp only[XO,List.mem_append,List.mem_singleton]
  grind
theorem zb4 (k:KnV) (l:List KnV) (p:Txt):jR (k::l) p=if k.path=p then some k else jR l p:=by
 grind [jR]
theorem DJ {kn:List KnV} {p:Txt} {k:KnV} (h:jR kn p=some k):k∈kn/\k.path=p:=by
 have h1:=List.mem_of_find?_eq_some h
 have h2:=List.find?_some h
 simp_all
theorem zcJ (p:Txt) (s:List Txt) (hp:p∉s):∀(kn:List KnV) {k:KnV},jR kn p=some k->XO kn (s++[p])+kW k<=XO kn s
 | [],k,h=>by grind [jR]
 | x::l,k,h=>by
  rw[zb4]at h
  simp only[XO,List.mem_append,List.mem_singleton]
  by_cases e:x.path=p
  ·rw[if_pos e]at h
   cases h
   have:=uS p s l
   grind
  ·rw[if_neg e]at h
   have:=zcJ p s hp l h
   grind
theorem zpJ {kn:List KnV} (h:∀k∈kn,k.is=true->k.data.length<=1000000):pX kn<=kn.length*1000002:=by
 induction kn with
 | nil=>simp[pX]
 | cons k l ih =>
  grind [ZW,dn,pX,kW]
/-! ### what a step leaves as it is -/
structure w9 (r r':qN):Prop where
 td:r'.todo=r.todo
 kn:r'.known=r.known
 se:r'.seen=r.seen
 wa:r'.waits=r.waits
 ak:r'.asks=r.asks
 en:r'.env=r.env
 bu:r.buf.length<=65536->r'.buf.length<=65536
theorem w9.refl (r:qN):w9 r r:=⟨rfl,rfl,rfl,rfl,rfl,rfl,id⟩
theorem w9.fail (e:Int) (r:qN):w9 r (wY e r):=⟨rfl,rfl,rfl,rfl,rfl,rfl,id⟩
theorem w9.add (s:Txt) (r:qN):w9 r (yS s r):=by
 unfold yS
 split
 ·simp[fail]
 ·refine⟨rfl,rfl,rfl,rfl,rfl,rfl,fun h=>?_⟩
  simp_all
theorem w9.trans {a b c:qN} (h:w9 a b) (g:w9 b c):w9 a c :=
 ⟨g.td.trans h.td,g.kn.trans h.kn,g.se.trans h.se,g.wa.trans h.wa,g.ak.trans h.ak,g.en.trans h.en,fun x=>g.bu (h.bu x)⟩
theorem w9.buf (b:Txt) (r:qN) (h:b.length<=65536):w9 r { r with buf:=b }:=⟨rfl,rfl,rfl,rfl,rfl,rfl,fun _=>h⟩
theorem w9.setLines (l:List Txt) (r:qN):w9 r (wB l r):=(w9.buf [] r (by simp)).trans (.add _ _)
theorem w9.turn (n a:Txt) (r:qN) (hb:r.buf.length<=65536):w9 r (wV n a r):=by
 unfold wV
 split
 ·simp[setLines]
 split
 ·simp[setLines]
 split
 ·simp_all[buf]
 split
 ·grind [buf,ZW,Lib.itoa_length_le]
 grind [setLines,refl]
/-! ### the invariant -/
def isL:TdV->Bool
 | .line _ _=>true
 | _=>false
structure WQ (z:Nat) (r:qN):Prop where
 ord:∃a b,r.todo=a++b/\(∀t∈a,isC t=true)/\(∀t∈b,isL t=true)
 wt:XD r.known r.todo+XO r.known r.seen+z<=pX r.known+1
 nc:r.todo.countP isC<=400
 nk:r.known.length<=500
 dat:∀k∈r.known,k.is=true->k.data.length<=1000000
 buf:r.buf.length<=65536
noncomputable def MR (r:qN):Nat:=r.todo.countP isC*(pX r.known+3)+(XD r.known r.todo+XO r.known r.seen)
theorem WQ.mono {z z':Nat} {r:qN} (h:WQ z r) (hz:z'<=z):WQ z' r:={ h with wt:=by have:=h.wt;omega }
theorem w9.inv {z:Nat} {r r':qN} (h:w9 r r') (hi:WQ z r):WQ z r':=by
 obtain⟨h1,h2,h3,h4,h5,h6,h7⟩:=h
 refine⟨?_,?_,?_,?_,?_,h7 hi.buf⟩
 ·rw[h1];exact hi.ord
 ·rw[h1,h2,h3];exact hi.wt
 ·rw[h1];exact hi.nc
 ·rw[h2];exact hi.nk
 ·rw[h2];exact hi.dat
theorem w9.mr {r r':qN} (h:w9 r r'):MR r'=MR r:=by unfold MR;rw[h.td,h.kn,h.se]
theorem WQ.len {z:Nat} {r:qN} (h:WQ z r):r.todo.length<=600000000:=by
 have h1:=cA r.known r.todo
 have h2:=zpJ h.dat
 have h3:=h.wt
 have h4:=h.nc
 have h5:=h.nk
 omega
def G0:CoV->Bool
 | .there (.scan _)=>true
 | _=>false
def W4 (r:qN):Prop:=(WQ 0 r/\r.waits=false)\/∃l k p,r.todo=l++[.ans k p]/\WQ (itW r.known (.ans k p)) { r with todo:=l }/\(G0 k=true->p∈r.seen)/\(r.waits=true->r.asks=p/\jR r.known p=none/\r.known.length<500)/\(r.waits=false->∃x,jR r.known p=some x)
theorem WQ.lines {z:Nat} {r:qN} (h:WQ z r) (w:Txt) (l:List Txt) (hl:l.length<=z):WQ 0 { r with todo:=r.todo++l.map fun s=>.line s w }/\MR { r with todo:=r.todo++l.map fun s=>.line s w }=MR r+l.length:=by
 obtain⟨a,b,h1,h2,h3⟩:=h.ord
 have hc:(l.map fun s=>TdV.line s w).countP isC=0:=by
  simp[isC]
 refine⟨⟨⟨a,b++l.map fun s=>.line s w,by simp[h1],h2,?_⟩,?_,?_,h.nk,h.dat,h.buf⟩,?_⟩
 ·intro t ht
  rcases List.mem_append.1 ht with h4|h4
  ·exact h3 t h4
  ·obtain⟨s,_,rfl⟩:=List.mem_map.1 h4;rfl
 ·have:=h.wt
  simp only[xC,GX]
  omega
 ·simp only[List.countP_append,hc];exact h.nc
 ·simp only[MR,xC,GX,List.countP_append,hc,Nat.add_zero];omega
def cW:CoV->KnV->Nat
 | .there (.scan _),x=>dn x
 | _,_=>0
theorem ziT {z:Nat} {r:qN} (h:WQ z r) (k:CoV) (x:KnV) (hc:cW k x<=z):WQ 0 (coR k x r)/\MR (coR k x r)<=MR r+cW k x/\(coR k x r).known=r.known/\(coR k x r).waits=r.waits:=by
 have same:∀ {r'},w9 r r'->WQ 0 r'/\MR r'<=MR r+cW k x/\r'.known=r.known/\r'.waits=r.waits:=fun hs=>⟨(hs.inv h).mono (Nat.zero_le _),by rw[hs.mr];omega,hs.kn,hs.wa⟩
 cases hx:x.is with
 | false =>
  cases k with
  | tr=>rw[show coR .tr x r=r by simp[coR,hx]];exact same (.refl _)
  | there t=>rw[show coR (.there t) x r=wY 10 r by simp[coR,hx]];exact same (.fail _ _)
 | true =>
  cases k with
  | tr=>rw[show coR .tr x r=yS x.data r by simp[coR,hx]];exact same (.add _ _)
  | there t =>
   cases t with
   | add=>rw[show coR (.there .add) x r=yS x.data r by simp[coR,hx,thR]];exact same (.add _ _)
   | scan w =>
    have h1:=h.lines w (qZ x.data).reverse (by simp_all[cW,dn])
    simp_all[coR,thR,cW,dn]
theorem zeE {kn:List KnV} {p:Txt} {x:KnV} (h:jR kn p=some x):nlW kn p=dn x:=by simp[nlW,h]
theorem zfB {kn:List KnV} {p:Txt} (h:jR kn p=none):nlW kn p=0:=by simp[nlW,h]
theorem zfX {kn:List KnV} {p:Txt} (h:jR kn p=none) (k:CoV):itW kn (.ans k p)=1:=by
 cases k with
 | tr=>rfl
 | there t=>cases t<;>simp[itW,zfB h]
theorem zam {z:Nat} {r:qN} (h:WQ z r) (hw:r.waits=false) (hz:1<=z) (p:Txt) (k:CoV) (hk:G0 k=true->nlW r.known p<=z/\p∈r.seen) :
  W4 (QT p k r)/\((QT p k r).waits=true\/MR (QT p k r)<=MR r+if G0 k=true then nlW r.known p else 0)/\(QT p k r).known=r.known:=by
 unfold QT
 cases hf:jR r.known p with
 | some x =>
  have hc:cW k x<=z/\cW k x<=if G0 k=true then nlW r.known p else 0:=by
   have hn:=zeE hf
   cases k with
   | tr=>simp[cW]
   | there t=>cases t with
    | add=>simp[cW]
    | scan w =>
     simp_all[cW,G0]
  obtain⟨h1,h2,h3,h4⟩:=ziT h k x hc.1
  exact⟨.inl ⟨h1,h4.trans hw⟩,.inr (Nat.le_trans h2 (by omega)),h3⟩
 | none =>
  simp only
  split
  ·exact⟨.inl ⟨((w9.fail 6 r).inv h).mono (Nat.zero_le _),hw⟩,.inr (by rw[(w9.fail 6 r).mr];omega),rfl⟩
  ·rename_i hlt
   refine⟨.inr ⟨r.todo,k,p,rfl,⟨h.ord,?_,h.nc,h.nk,h.dat,h.buf⟩,fun e=>(hk e).2,fun _=>⟨rfl,hf,by simp_all⟩,fun e=>by cases e⟩,.inl rfl,rfl⟩
   have:=h.wt
   grind [zfX]
theorem zdz {r:qN} (h:WQ 1 r) (hw:r.waits=false) (p w:Txt) (hp:p∉r.seen) :
  W4 (JL p w r)/\((JL p w r).waits=true\/MR (JL p w r)<=MR r)/\(JL p w r).known=r.known:=by
 unfold JL
 have hle:XO r.known (r.seen++[p])+nlW r.known p<=XO r.known r.seen:=by
  cases hf:jR r.known p with
  | none=>simp_all[zfB,uS]
  | some x =>
   rw[zeE hf]
   have:=zcJ p r.seen hp r.known hf
   grind [kW]
 have hi:WQ (1+nlW r.known p) { r with seen:=r.seen++[p] }:=by
  refine⟨h.ord,?_,h.nc,h.nk,h.dat,h.buf⟩
  have:=h.wt
  grind
 obtain⟨h1,h2,h3⟩:=zam hi hw (by omega) p (.there (.scan w)) (fun _=>⟨by simp,by simp⟩)
 refine⟨h1,?_,h3⟩
 rcases h2 with h2|h2
 ·exact .inl h2
 ·refine .inr (Nat.le_trans h2 ?_)
  simp only[G0,if_true,MR]
  omega
theorem w9.invT {z:Nat} {r r':qN} (h:w9 r r') (hi:WQ z r) (hw:r.waits=false) (m:Nat):W4 r'/\(r'.waits=true\/MR r'<=MR r+m)/\r'.known=r.known :=
 ⟨.inl ⟨(h.inv hi).mono (Nat.zero_le _),h.wa.trans hw⟩,.inr (by rw[h.mr];omega),h.kn⟩
theorem zle {r:qN} (h:WQ 1 r) (hw:r.waits=false) (s w:Txt):W4 (J1 s w r)/\((J1 s w r).waits=true\/MR (J1 s w r)<=MR r)/\(J1 s w r).known=r.known:=by
 unfold J1
 split
 ·split
  ·exact(w9.add _ _).invT h hw 0
  split
  ·exact(w9.refl _).invT h hw 0
  simp_all[zdz]
 ·exact(w9.add _ _).invT h hw 0
theorem zp7 {r:qN} (h:WQ 1 r) (hw:r.waits=false) (hcm:∀t∈r.todo,isC t=true) (c:CmdV):W4 (doR c r)/\((doR c r).waits=true\/MR (doR c r)<=MR r+pX r.known)/\(doR c r).known=r.known:=by
 unfold doR
 simp only
 split
 ·grind [zam,G0]
 split
 ·grind [zam,G0]
 split
 ·have h0:=VQ r.known r.todo hcm
  have hu:=zen r.known []
  have hi:WQ 1 { r with seen:=[] }:=by
   refine⟨h.ord,?_,h.nc,h.nk,h.dat,h.buf⟩
   simp_all
  grind [zdz,MR]
 split
 ·exact(w9.add _ _).invT h hw _
 split
 ·split
  ·exact(w9.add _ _).invT h hw _
  ·exact(w9.fail _ _).invT h hw _
 split
 ·exact w9.invT (r:=r) (r':={ r with over:=⟨2,c.words.getD 1 [],r.buf,0⟩,buf:=[] }) ⟨rfl,rfl,rfl,rfl,rfl,rfl,fun _=>Nat.zero_le _⟩ h hw _
 split
 ·split
  ·exact(w9.refl _).invT h hw _
  ·exact(w9.fail _ _).invT h hw _
 split
 ·exact(w9.fail _ _).invT h hw _
 ·exact(w9.turn _ _ _ h.buf).invT h hw _
theorem WQ.pop {r:qN} {l:List TdV} {t:TdV} (h:WQ 0 r) (e:r.todo=l++[t]):(isC t=true/\(∀x∈l,isC x=true)/\WQ 1 { r with todo:=l }/\MR { r with todo:=l }+(pX r.known+3)<=MR r)\/(isL t=true/\WQ 1 { r with todo:=l }/\MR { r with todo:=l }+1<=MR r):=by
 obtain⟨a,b,h1,h2,h3⟩:=h.ord
 have hnc:=h.nc
 have hwt:=h.wt
 rw[e,List.countP_append]at hnc
 rw[e,xC]at hwt
 rcases List.eq_nil_or_concat b with rfl|⟨b',x,rfl⟩
 ·rw[e,List.append_nil]at h1
  subst h1
  have ht:=h2 t (by simp)
  have hl:∀x∈l,isC x=true:=fun x hx=>h2 x (by simp[hx])
  refine .inl ⟨ht,hl,⟨⟨l,[],by simp,hl,by simp⟩,?_,by grind,h.nk,h.dat,h.buf⟩,?_⟩
  ·simp_all[VQ,zen]
  ·simp only[MR,e,List.countP_append,xC,List.countP_cons,List.countP_nil,ht,if_true]
   grind
 ·rw[e,List.concat_eq_append,<-List.append_assoc]at h1
  obtain⟨h5,h6⟩:=List.append_inj' h1 rfl
  cases h6
  have ht:=h3 t (by simp)
  have hl:∀x∈b',isL x=true:=fun x hx=>h3 x (by simp_all)
  have hi:itW r.known t=1:=by cases t<;>simp[isL]at ht;rfl
  have hcn:isC t=false:=by cases t<;>simp[isL]at ht;rfl
  simp only[XD,hi]at hwt
  refine .inr ⟨ht,⟨⟨a,b',h5,h2,hl⟩,?_,by simp_all,h.nk,h.dat,h.buf⟩,?_⟩
  ·grind
  ·simp only[MR,e,List.countP_append,xC,List.countP_cons,List.countP_nil,hcn,XD,hi]
   grind
theorem YX {r:qN} {l:List TdV} {t:TdV} (e:r.todo=l++[t]):Z1 r=tdR t { r with todo:=l }:=by
 simp_all[Z1]
theorem YP {r:qN} (e:r.todo=[]):Z1 r={ r with over:=⟨3,[],[],0⟩ }:=by
 simp_all[Z1]
theorem DY {r:qN} (h:W4 r) (hs:w8 r=false):W4 (Z1 r)/\(w8 (Z1 r)=true\/MR (Z1 r)<MR r)/\(Z1 r).known=r.known:=by
 have hw:r.waits=false:=by
  simp_all[w8]
 have st:∀ {r':qN},r'.waits=true->w8 r'=true:=fun h=>by simp[w8,h]
 rcases h with⟨h,_⟩|⟨l,k,p,e,h,hk,_⟩
 ·rcases List.eq_nil_or_concat r.todo with e|⟨l,t,e⟩
  ·rw[YP e]
   exact⟨.inl ⟨⟨h.ord,h.wt,h.nc,h.nk,h.dat,h.buf⟩,hw⟩,.inl (by simp[w8]),rfl⟩
  ·rw[List.concat_eq_append]at e
   rw[YX e]
   rcases h.pop e with⟨h1,h2,h3,h4⟩|⟨h1,h3,h4⟩
   ·cases t<;>simp[isC]at h1
    grind [zp7,tdR]
   ·cases t<;>simp[isL]at h1
    grind [zle,tdR]
 ·rw[YX e]
  have hc:cW k ((jR r.known p).getD kn0)+1<=itW r.known (.ans k p):=by
   cases k with
   | tr=>simp[cW,itW]
   | there t=>cases t with
    | add=>simp[cW,itW]
    | scan w =>
     grind [cW,itW,zeE]
  obtain⟨g1,g2,g3,g4⟩:=ziT h k ((jR r.known p).getD kn0) (by omega)
  refine⟨.inl ⟨g1,g4.trans hw⟩,.inr ?_,g3⟩
  have hcn:isC (.ans k p)=false:=rfl
  simp only[tdR]
  refine Nat.lt_of_le_of_lt g2 ?_
  simp only[MR,e,List.countP_append,xC,List.countP_cons,List.countP_nil,hcn,XD,Nat.add_zero,Bool.false_eq_true,if_false]
  omega
theorem zj0:∀(n:Nat) (r:qN),W4 r->MR r<n->∃r',runN (n+1) r=some r'/\W4 r'/\w8 r'=true/\r'.known=r.known
 | 0,r,_,h=>absurd h (Nat.not_lt_zero _)
 | n+1,r,hi,h=>by
  rw[runN]
  by_cases hs:w8 r=true
  ·simp_all
  rw[if_neg hs]
  obtain⟨h1,h2,h3⟩:=DY hi (by simp_all)
  by_cases hs2:w8 (Z1 r)=true
  ·simp_all[runN]
  ·have h4:=h2.resolve_left hs2
   obtain⟨r',g1,g2,g3,g4⟩:=zj0 n (Z1 r) h1 (by omega)
   simp_all
noncomputable def kZ (r:qN):qN:=(runN (MR r+2) r).getD r
theorem yZ {r:qN} (h:W4 r):runN (MR r+2) r=some (kZ r)/\W4 (kZ r)/\w8 (kZ r)=true/\(kZ r).known=r.known:=by
 obtain⟨r',h1,h2,h3,h4⟩:=zj0 (MR r+1) r h (by omega)
 simp_all[kZ]
noncomputable def wI (r:qN):DoV × qN :=
 let s:=kZ r
 if s.waits=true then(⟨1,s.asks,[],0⟩,s) else(s.over,if s.over.kind=2 then { s with over:=do0 } else s)
noncomputable def J7 (k:KnV) (r:qN):Int × qN :=
 let s:=kZ r
 if s.waits=false then(19,s) else if k.path≠s.asks then(1,s) else if k.is=true/\65536<k.data.length then(6,s) else(0,{ s with known:=s.known++[k],asks:=[],waits:=false })
theorem W4.of_same {r r':qN} (h:W4 r) (h1:r'.todo=r.todo) (h2:r'.known=r.known) (h3:r'.seen=r.seen) (h4:r'.waits=r.waits) (h5:r'.asks=r.asks) (h6:r'.buf=r.buf):W4 r':=by
 unfold W4 at *
 rcases h with⟨h,hw⟩|⟨l,k,p,e,h,hk,hh⟩
 ·exact .inl ⟨⟨by rw[h1];exact h.ord,by rw[h1,h2,h3];exact h.wt,by rw[h1];exact h.nc,by rw[h2];exact h.nk,by rw[h2];exact h.dat,by rw[h6];exact h.buf⟩,h4.trans hw⟩
 ·refine .inr ⟨l,k,p,h1.trans e,?_,by simp_all,by simp_all⟩
  rw[h2]
  exact⟨h.ord,by have:=h.wt;simp_all,h.nc,by simpa only[h2]using h.nk,by simpa only[h2]using h.dat,by simpa only[h6]using h.buf⟩
theorem zaZ {kn:List KnV} {p:Txt} {k:KnV} (h:jR kn p=none) (hk:k.path=p):jR (kn++[k]) p=some k:=by
 grind [jR]
theorem zdG (k:KnV):∀kn:List KnV,pX (kn++[k])=pX kn+kW k
 | []=>by simp[pX]
 | x::l=>by simp only[List.cons_append,pX,zdG k l];omega
theorem zgD (k:KnV) (s:List Txt):∀kn:List KnV,XO (kn++[k]) s=XO kn s+if k.path∈s then 0 else kW k
 | []=>by simp[XO]
 | x::l=>by simp only[List.cons_append,XO,zgD k s l];omega
theorem zbu (kn kn':List KnV):∀l:List TdV,(∀t∈l,isC t=true\/isL t=true)->XD kn l=XD kn' l
 | [],_=>rfl
 | t::l,h=>by
  have h1:=h t (by simp)
  have h2:=zbu kn kn' l fun x hx=>h x (by simp[hx])
  simp only[XD,h2]
  cases t<;>simp[isC,isL]at h1<;>rfl
theorem zdl {r:qN} (h:W4 r) (k:KnV) (hk:k.is=true->k.data.length<=1000000):W4 (J7 k r).2:=by
 have h1:=(yZ h).2.1
 unfold J7
 simp only
 split
 ·exact h1
 split
 ·exact h1
 split
 ·exact h1
 ·rename_i hw hp _
  have hw':(kZ r).waits=true:=by simp_all
  have hp':k.path=(kZ r).asks:=by simp_all
  obtain⟨s,hs⟩:∃s,s=kZ r:=⟨_,rfl⟩
  rw[<-hs]at h1 hw' hp' |-
  rcases h1 with⟨_,h2⟩|⟨l,c,p,e,h2,hc,hh⟩
  ·simp_all
  ·obtain⟨g1,g2,g3⟩:=hh.1 hw'
   rw[g1]at hp'
   refine .inr ⟨l,c,p,e,⟨h2.ord,?_,h2.nc,by grind,?_,h2.buf⟩,hc,fun e=>(by cases e),fun _=>⟨k,zaZ g2 hp'⟩⟩
   ·obtain⟨a,b,o1,o2,o3⟩:=h2.ord
    have hwt:=h2.wt
    simp only at o1 hwt |-
    rw[zbu (s.known++[k]) s.known l (by
     grind),zdG,zgD,hp']
    rw[zfX g2]at hwt
    have hkW:kW k=dn k+1:=rfl
    have hn:=zeE (zaZ g2 hp')
    cases c with
    | tr=>grind [itW]
    | there t=>cases t with
     | add=>grind [itW]
     | scan w =>
      rw[if_pos (hc rfl)]
      grind [itW]
   ·intro x hx
    rcases List.mem_append.1 hx with hx|hx
    ·exact h2.dat x hx
    simp_all
end Go.Proofs.YtfkcpballfhddaaGreatDoor
