/- A tool comes to an end: plain. No condition. -/
import Derived.Test.YtdkieabmeiojjaaGreatDoorQ0ToK5
import Derived.Lib.ItoaLen
set_option linter.unusedSimpArgs false
set_option linter.unusedVariables false
set_option linter.unusedSectionVars false
set_option maxRecDepth 100000
namespace Go.Proofs.YtdkieabmeiojjaaGreatDoor
open Go Go.Ab
open Classical
variable [Sel] [SelPow] [SelMax]
def dn (k:KnV):Nat:=if k.is=true then(qU k.data).length else 0
def kW (k:KnV):Nat:=dn k+1
def nlW (kn:List KnV) (p:Txt):Nat:=match j3 kn p with
 | some k=>dn k
 | none=>0
def itW (kn:List KnV):TdV->Nat
 | .cmd _=>0
 | .ans (.there (.scan _)) p=>1+nlW kn p
 | .ans _ _=>1
 | .line _ _=>1
def YV (kn:List KnV):List TdV->Nat
 | []=>0
 | t::l=>itW kn t+YV kn l
def zra:List KnV->Nat
 | []=>0
 | k::l=>kW k+zra l
noncomputable def xK:List KnV->List Txt->Nat
 | [],_=>0
 | k::l,s=>(if k.path∈s then 0 else kW k)+xK l s
def isC:TdV->Bool
 | .cmd _=>true
 | _=>false
theorem WJ (kn:List KnV):∀a b:List TdV,YV kn (a++b)=YV kn a+YV kn b
 | [],b=>by simp[YV]
 | t::a,b=>by simp only[List.cons_append,YV,WJ kn a b];omega
theorem V8 (kn:List KnV) (w:Txt):∀l:List Txt,YV kn (l.map fun s=>.line s w)=l.length
 | []=>rfl
 | s::l=>by simp only[List.map_cons,YV,itW,V8 kn w l,List.length_cons];omega
theorem U9 (kn:List KnV):∀l:List TdV,(∀t∈l,isC t=true)->YV kn l=0
 | [],_=>rfl
 | t::l,h=>by
  have h1:=h t (by simp)
  cases t<;>simp[isC]at h1
  simp only[YV,itW,U9 kn l fun x hx=>h x (by simp[hx])]
theorem pO (kn:List KnV):∀l:List TdV,l.length<=l.countP isC+YV kn l
 | []=>by simp
 | t::l=>by
  have:=pO kn l
  rw[List.countP_cons]
  simp only[YV,List.length_cons]
  cases t with
  | cmd c=>simp only[isC,itW,if_true];omega
  | ans k p =>
   cases k with
   | there t=>cases t<;>simp only[isC,itW]<;>simp<;>omega
   | tr=>grind [itW]
  | line s w=>grind [itW]
theorem zbY:∀(kn:List KnV) (s:List Txt),xK kn s<=zra kn
 | [],_=>by simp[xK]
 | k::l,s=>by
  have:=zbY l s
  simp only[xK,zra]
  split<;>omega
theorem X7 (p:Txt) (s:List Txt):∀kn:List KnV,xK kn (s++[p])<=xK kn s
 | []=>by simp[xK]
 | k::l=>by
  have:=X7 p s l
  simp only[xK,List.mem_append,List.mem_singleton]
  grind
theorem dR (k:KnV) (l:List KnV) (p:Txt):j3 (k::l) p=if k.path=p then some k else j3 l p:=by
 grind [j3]
theorem GV {kn:List KnV} {p:Txt} {k:KnV} (h:j3 kn p=some k):k∈kn/\k.path=p:=by
 have h1:=List.mem_of_find?_eq_some h
 have h2:=List.find?_some h
 simp_all
theorem zbg (p:Txt) (s:List Txt) (hp:p∉s):∀(kn:List KnV) {k:KnV},j3 kn p=some k->xK kn (s++[p])+kW k<=xK kn s
 | [],k,h=>by grind [j3]
 | x::l,k,h=>by
  rw[dR]at h
  simp only[xK,List.mem_append,List.mem_singleton]
  by_cases e:x.path=p
  ·rw[if_pos e]at h
   cases h
   have:=X7 p s l
   grind
  ·rw[if_neg e]at h
   have:=zbg p s hp l h
   grind
theorem zmd {kn:List KnV} (h:∀k∈kn,k.is=true->k.data.length<=1000000):zra kn<=kn.length*1000002:=by
 induction kn with
 | nil=>simp[zra]
 | cons k l ih =>
  grind [ZU,dn,zra,kW]
/-! ### what a step leaves as it is -/
structure kC (r r':qG):Prop where
 td:r'.todo=r.todo
 kn:r'.known=r.known
 se:r'.seen=r.seen
 wa:r'.waits=r.waits
 ak:r'.asks=r.asks
 en:r'.env=r.env
 bu:r.buf.length<=65536->r'.buf.length<=65536
theorem kC.refl (r:qG):kC r r:=⟨rfl,rfl,rfl,rfl,rfl,rfl,id⟩
theorem kC.fail (e:Int) (r:qG):kC r (w6 e r):=⟨rfl,rfl,rfl,rfl,rfl,rfl,id⟩
theorem kC.add (s:Txt) (r:qG):kC r (y6 s r):=by
 unfold y6
 split
 ·simp[fail]
 ·refine⟨rfl,rfl,rfl,rfl,rfl,rfl,fun h=>?_⟩
  simp_all
theorem kC.trans {a b c:qG} (h:kC a b) (g:kC b c):kC a c :=
 ⟨g.td.trans h.td,g.kn.trans h.kn,g.se.trans h.se,g.wa.trans h.wa,g.ak.trans h.ak,g.en.trans h.en,fun x=>g.bu (h.bu x)⟩
theorem kC.buf (b:Txt) (r:qG) (h:b.length<=65536):kC r { r with buf:=b }:=⟨rfl,rfl,rfl,rfl,rfl,rfl,fun _=>h⟩
theorem kC.setLines (l:List Txt) (r:qG):kC r (kH l r):=(kC.buf [] r (by simp)).trans (.add _ _)
theorem kC.turn (n a:Txt) (r:qG) (hb:r.buf.length<=65536):kC r (kX n a r):=by
 unfold kX
 split
 ·simp[setLines]
 split
 ·simp[setLines]
 split
 ·simp_all[buf]
 split
 ·grind [buf,ZU,Lib.itoa_length_le]
 grind [setLines,refl]
/-! ### the invariant -/
def isL:TdV->Bool
 | .line _ _=>true
 | _=>false
structure K4 (z:Nat) (r:qG):Prop where
 ord:∃a b,r.todo=a++b/\(∀t∈a,isC t=true)/\(∀t∈b,isL t=true)
 wt:YV r.known r.todo+xK r.known r.seen+z<=zra r.known+1
 nc:r.todo.countP isC<=400
 nk:r.known.length<=500
 dat:∀k∈r.known,k.is=true->k.data.length<=1000000
 buf:r.buf.length<=65536
noncomputable def MR (r:qG):Nat:=r.todo.countP isC*(zra r.known+3)+(YV r.known r.todo+xK r.known r.seen)
theorem K4.mono {z z':Nat} {r:qG} (h:K4 z r) (hz:z'<=z):K4 z' r:={ h with wt:=by have:=h.wt;omega }
theorem kC.inv {z:Nat} {r r':qG} (h:kC r r') (hi:K4 z r):K4 z r':=by
 obtain⟨h1,h2,h3,h4,h5,h6,h7⟩:=h
 refine⟨?_,?_,?_,?_,?_,h7 hi.buf⟩
 ·rw[h1];exact hi.ord
 ·rw[h1,h2,h3];exact hi.wt
 ·rw[h1];exact hi.nc
 ·rw[h2];exact hi.nk
 ·rw[h2];exact hi.dat
theorem kC.mr {r r':qG} (h:kC r r'):MR r'=MR r:=by unfold MR;rw[h.td,h.kn,h.se]
theorem K4.len {z:Nat} {r:qG} (h:K4 z r):r.todo.length<=600000000:=by
 have h1:=pO r.known r.todo
 have h2:=zmd h.dat
 have h3:=h.wt
 have h4:=h.nc
 have h5:=h.nk
 omega
def pL:CoV->Bool
 | .there (.scan _)=>true
 | _=>false
def JN (r:qG):Prop:=(K4 0 r/\r.waits=false)\/∃l k p,r.todo=l++[.ans k p]/\K4 (itW r.known (.ans k p)) { r with todo:=l }/\(pL k=true->p∈r.seen)/\(r.waits=true->r.asks=p/\j3 r.known p=none/\r.known.length<500)/\(r.waits=false->∃x,j3 r.known p=some x)
theorem K4.lines {z:Nat} {r:qG} (h:K4 z r) (w:Txt) (l:List Txt) (hl:l.length<=z):K4 0 { r with todo:=r.todo++l.map fun s=>.line s w }/\MR { r with todo:=r.todo++l.map fun s=>.line s w }=MR r+l.length:=by
 obtain⟨a,b,h1,h2,h3⟩:=h.ord
 have hc:(l.map fun s=>TdV.line s w).countP isC=0:=by
  simp[isC]
 refine⟨⟨⟨a,b++l.map fun s=>.line s w,by simp[h1],h2,?_⟩,?_,?_,h.nk,h.dat,h.buf⟩,?_⟩
 ·intro t ht
  rcases List.mem_append.1 ht with h4|h4
  ·exact h3 t h4
  ·obtain⟨s,_,rfl⟩:=List.mem_map.1 h4;rfl
 ·have:=h.wt
  simp only[WJ,V8]
  omega
 ·simp only[List.countP_append,hc];exact h.nc
 ·simp only[MR,WJ,V8,List.countP_append,hc,Nat.add_zero];omega
def cW:CoV->KnV->Nat
 | .there (.scan _),x=>dn x
 | _,_=>0
theorem zgo {z:Nat} {r:qG} (h:K4 z r) (k:CoV) (x:KnV) (hc:cW k x<=z):K4 0 (coR k x r)/\MR (coR k x r)<=MR r+cW k x/\(coR k x r).known=r.known/\(coR k x r).waits=r.waits:=by
 have same:∀ {r'},kC r r'->K4 0 r'/\MR r'<=MR r+cW k x/\r'.known=r.known/\r'.waits=r.waits:=fun hs=>⟨(hs.inv h).mono (Nat.zero_le _),by rw[hs.mr];omega,hs.kn,hs.wa⟩
 cases hx:x.is with
 | false =>
  cases k with
  | tr=>rw[show coR .tr x r=r by simp[coR,hx]];exact same (.refl _)
  | there t=>rw[show coR (.there t) x r=w6 10 r by simp[coR,hx]];exact same (.fail _ _)
 | true =>
  cases k with
  | tr=>rw[show coR .tr x r=y6 x.data r by simp[coR,hx]];exact same (.add _ _)
  | there t =>
   cases t with
   | add=>rw[show coR (.there .add) x r=y6 x.data r by simp[coR,hx,thR]];exact same (.add _ _)
   | scan w =>
    have h1:=h.lines w (qU x.data).reverse (by simp_all[cW,dn])
    simp_all[coR,thR,cW,dn]
theorem zc3 {kn:List KnV} {p:Txt} {x:KnV} (h:j3 kn p=some x):nlW kn p=dn x:=by simp[nlW,h]
theorem zdD {kn:List KnV} {p:Txt} (h:j3 kn p=none):nlW kn p=0:=by simp[nlW,h]
theorem zeN {kn:List KnV} {p:Txt} (h:j3 kn p=none) (k:CoV):itW kn (.ans k p)=1:=by
 cases k with
 | tr=>rfl
 | there t=>cases t<;>simp[itW,zdD h]
theorem CQ {z:Nat} {r:qG} (h:K4 z r) (hw:r.waits=false) (hz:1<=z) (p:Txt) (k:CoV) (hk:pL k=true->nlW r.known p<=z/\p∈r.seen) :
  JN (yN p k r)/\((yN p k r).waits=true\/MR (yN p k r)<=MR r+if pL k=true then nlW r.known p else 0)/\(yN p k r).known=r.known:=by
 unfold yN
 cases hf:j3 r.known p with
 | some x =>
  have hc:cW k x<=z/\cW k x<=if pL k=true then nlW r.known p else 0:=by
   have hn:=zc3 hf
   cases k with
   | tr=>simp[cW]
   | there t=>cases t with
    | add=>simp[cW]
    | scan w =>
     simp_all[cW,pL]
  obtain⟨h1,h2,h3,h4⟩:=zgo h k x hc.1
  exact⟨.inl ⟨h1,h4.trans hw⟩,.inr (Nat.le_trans h2 (by omega)),h3⟩
 | none =>
  simp only
  split
  ·exact⟨.inl ⟨((kC.fail 6 r).inv h).mono (Nat.zero_le _),hw⟩,.inr (by rw[(kC.fail 6 r).mr];omega),rfl⟩
  ·rename_i hlt
   refine⟨.inr ⟨r.todo,k,p,rfl,⟨h.ord,?_,h.nc,h.nk,h.dat,h.buf⟩,fun e=>(hk e).2,fun _=>⟨rfl,hf,by simp_all⟩,fun e=>by cases e⟩,.inl rfl,rfl⟩
   have:=h.wt
   grind [zeN]
theorem zbM {r:qG} (h:K4 1 r) (hw:r.waits=false) (p w:Txt) (hp:p∉r.seen) :
  JN (ZD p w r)/\((ZD p w r).waits=true\/MR (ZD p w r)<=MR r)/\(ZD p w r).known=r.known:=by
 unfold ZD
 have hle:xK r.known (r.seen++[p])+nlW r.known p<=xK r.known r.seen:=by
  cases hf:j3 r.known p with
  | none=>simp_all[zdD,X7]
  | some x =>
   rw[zc3 hf]
   have:=zbg p r.seen hp r.known hf
   grind [kW]
 have hi:K4 (1+nlW r.known p) { r with seen:=r.seen++[p] }:=by
  refine⟨h.ord,?_,h.nc,h.nk,h.dat,h.buf⟩
  have:=h.wt
  grind
 obtain⟨h1,h2,h3⟩:=CQ hi hw (by omega) p (.there (.scan w)) (fun _=>⟨by simp,by simp⟩)
 refine⟨h1,?_,h3⟩
 rcases h2 with h2|h2
 ·exact .inl h2
 ·refine .inr (Nat.le_trans h2 ?_)
  simp only[pL,if_true,MR]
  omega
theorem kC.invT {z:Nat} {r r':qG} (h:kC r r') (hi:K4 z r) (hw:r.waits=false) (m:Nat):JN r'/\(r'.waits=true\/MR r'<=MR r+m)/\r'.known=r.known :=
 ⟨.inl ⟨(h.inv hi).mono (Nat.zero_le _),h.wa.trans hw⟩,.inr (by rw[h.mr];omega),h.kn⟩
theorem ziJ {r:qG} (h:K4 1 r) (hw:r.waits=false) (s w:Txt):JN (QP s w r)/\((QP s w r).waits=true\/MR (QP s w r)<=MR r)/\(QP s w r).known=r.known:=by
 unfold QP
 split
 ·split
  ·exact(kC.add _ _).invT h hw 0
  split
  ·exact(kC.refl _).invT h hw 0
  simp_all[zbM]
 ·exact(kC.add _ _).invT h hw 0
theorem zmr {r:qG} (h:K4 1 r) (hw:r.waits=false) (hcm:∀t∈r.todo,isC t=true) (c:CmdV):JN (doR c r)/\((doR c r).waits=true\/MR (doR c r)<=MR r+zra r.known)/\(doR c r).known=r.known:=by
 unfold doR
 simp only
 split
 ·grind [CQ,pL]
 split
 ·grind [CQ,pL]
 split
 ·have h0:=U9 r.known r.todo hcm
  have hu:=zbY r.known []
  have hi:K4 1 { r with seen:=[] }:=by
   refine⟨h.ord,?_,h.nc,h.nk,h.dat,h.buf⟩
   simp_all
  grind [zbM,MR]
 split
 ·exact(kC.add _ _).invT h hw _
 split
 ·split
  ·exact(kC.add _ _).invT h hw _
  ·exact(kC.fail _ _).invT h hw _
 split
 ·exact kC.invT (r:=r) (r':={ r with over:=⟨2,c.words.getD 1 [],r.buf,0⟩,buf:=[] }) ⟨rfl,rfl,rfl,rfl,rfl,rfl,fun _=>Nat.zero_le _⟩ h hw _
 split
 ·split
  ·exact(kC.refl _).invT h hw _
  ·exact(kC.fail _ _).invT h hw _
 split
 ·exact(kC.fail _ _).invT h hw _
 ·exact(kC.turn _ _ _ h.buf).invT h hw _
theorem K4.pop {r:qG} {l:List TdV} {t:TdV} (h:K4 0 r) (e:r.todo=l++[t]):(isC t=true/\(∀x∈l,isC x=true)/\K4 1 { r with todo:=l }/\MR { r with todo:=l }+(zra r.known+3)<=MR r)\/(isL t=true/\K4 1 { r with todo:=l }/\MR { r with todo:=l }+1<=MR r):=by
 obtain⟨a,b,h1,h2,h3⟩:=h.ord
 have hnc:=h.nc
 have hwt:=h.wt
 rw[e,List.countP_append]at hnc
 rw[e,WJ]at hwt
 rcases List.eq_nil_or_concat b with rfl|⟨b',x,rfl⟩
 ·rw[e,List.append_nil]at h1
  subst h1
  have ht:=h2 t (by simp)
  have hl:∀x∈l,isC x=true:=fun x hx=>h2 x (by simp[hx])
  refine .inl ⟨ht,hl,⟨⟨l,[],by simp,hl,by simp⟩,?_,by grind,h.nk,h.dat,h.buf⟩,?_⟩
  ·simp_all[U9,zbY]
  ·simp only[MR,e,List.countP_append,WJ,List.countP_cons,List.countP_nil,ht,if_true]
   grind
 ·rw[e,List.concat_eq_append,<-List.append_assoc]at h1
  obtain⟨h5,h6⟩:=List.append_inj' h1 rfl
  cases h6
  have ht:=h3 t (by simp)
  have hl:∀x∈b',isL x=true:=fun x hx=>h3 x (by simp_all)
  have hi:itW r.known t=1:=by cases t<;>simp[isL]at ht;rfl
  have hcn:isC t=false:=by cases t<;>simp[isL]at ht;rfl
  simp only[YV,hi]at hwt
  refine .inr ⟨ht,⟨⟨a,b',h5,h2,hl⟩,?_,by simp_all,h.nk,h.dat,h.buf⟩,?_⟩
  ·grind
  ·simp only[MR,e,List.countP_append,WJ,List.countP_cons,List.countP_nil,hcn,YV,hi]
   grind
theorem W9 {r:qG} {l:List TdV} {t:TdV} (e:r.todo=l++[t]):yX r=tdR t { r with todo:=l }:=by
 simp_all[yX]
theorem W7 {r:qG} (e:r.todo=[]):yX r={ r with over:=⟨3,[],[],0⟩ }:=by
 simp_all[yX]
theorem pD {r:qG} (h:JN r) (hs:kE r=false):JN (yX r)/\(kE (yX r)=true\/MR (yX r)<MR r)/\(yX r).known=r.known:=by
 have hw:r.waits=false:=by
  simp_all[kE]
 have st:∀ {r':qG},r'.waits=true->kE r'=true:=fun h=>by simp[kE,h]
 rcases h with⟨h,_⟩|⟨l,k,p,e,h,hk,_⟩
 ·rcases List.eq_nil_or_concat r.todo with e|⟨l,t,e⟩
  ·rw[W7 e]
   exact⟨.inl ⟨⟨h.ord,h.wt,h.nc,h.nk,h.dat,h.buf⟩,hw⟩,.inl (by simp[kE]),rfl⟩
  ·rw[List.concat_eq_append]at e
   rw[W9 e]
   rcases h.pop e with⟨h1,h2,h3,h4⟩|⟨h1,h3,h4⟩
   ·cases t<;>simp[isC]at h1
    grind [zmr,tdR]
   ·cases t<;>simp[isL]at h1
    grind [ziJ,tdR]
 ·rw[W9 e]
  have hc:cW k ((j3 r.known p).getD kn0)+1<=itW r.known (.ans k p):=by
   cases k with
   | tr=>simp[cW,itW]
   | there t=>cases t with
    | add=>simp[cW,itW]
    | scan w =>
     grind [cW,itW,zc3]
  obtain⟨g1,g2,g3,g4⟩:=zgo h k ((j3 r.known p).getD kn0) (by omega)
  refine⟨.inl ⟨g1,g4.trans hw⟩,.inr ?_,g3⟩
  have hcn:isC (.ans k p)=false:=rfl
  simp only[tdR]
  refine Nat.lt_of_le_of_lt g2 ?_
  simp only[MR,e,List.countP_append,WJ,List.countP_cons,List.countP_nil,hcn,YV,Nat.add_zero,Bool.false_eq_true,if_false]
  omega
theorem zgK:∀(n:Nat) (r:qG),JN r->MR r<n->∃r',runN (n+1) r=some r'/\JN r'/\kE r'=true/\r'.known=r.known
 | 0,r,_,h=>absurd h (Nat.not_lt_zero _)
 | n+1,r,hi,h=>by
  rw[runN]
  by_cases hs:kE r=true
  ·simp_all
  rw[if_neg hs]
  obtain⟨h1,h2,h3⟩:=pD hi (by simp_all)
  by_cases hs2:kE (yX r)=true
  ·simp_all[runN]
  ·have h4:=h2.resolve_left hs2
   obtain⟨r',g1,g2,g3,g4⟩:=zgK n (yX r) h1 (by omega)
   simp_all
noncomputable def k9 (r:qG):qG:=(runN (MR r+2) r).getD r
theorem y9 {r:qG} (h:JN r):runN (MR r+2) r=some (k9 r)/\JN (k9 r)/\kE (k9 r)=true/\(k9 r).known=r.known:=by
 obtain⟨r',h1,h2,h3,h4⟩:=zgK (MR r+1) r h (by omega)
 simp_all[k9]
noncomputable def kN (r:qG):DoV × qG :=
 let s:=k9 r
 if s.waits=true then(⟨1,s.asks,[],0⟩,s) else(s.over,if s.over.kind=2 then { s with over:=do0 } else s)
noncomputable def Z2 (k:KnV) (r:qG):Int × qG :=
 let s:=k9 r
 if s.waits=false then(19,s) else if k.path≠s.asks then(1,s) else if k.is=true/\65536<k.data.length then(6,s) else(0,{ s with known:=s.known++[k],asks:=[],waits:=false })
theorem JN.of_same {r r':qG} (h:JN r) (h1:r'.todo=r.todo) (h2:r'.known=r.known) (h3:r'.seen=r.seen) (h4:r'.waits=r.waits) (h5:r'.asks=r.asks) (h6:r'.buf=r.buf):JN r':=by
 unfold JN at *
 rcases h with⟨h,hw⟩|⟨l,k,p,e,h,hk,hh⟩
 ·exact .inl ⟨⟨by rw[h1];exact h.ord,by rw[h1,h2,h3];exact h.wt,by rw[h1];exact h.nc,by rw[h2];exact h.nk,by rw[h2];exact h.dat,by rw[h6];exact h.buf⟩,h4.trans hw⟩
 ·refine .inr ⟨l,k,p,h1.trans e,?_,by simp_all,by simp_all⟩
  rw[h2]
  exact⟨h.ord,by have:=h.wt;simp_all,h.nc,by simpa only[h2]using h.nk,by simpa only[h2]using h.dat,by simpa only[h6]using h.buf⟩
theorem DU {kn:List KnV} {p:Txt} {k:KnV} (h:j3 kn p=none) (hk:k.path=p):j3 (kn++[k]) p=some k:=by
 grind [j3]
theorem zbt (k:KnV):∀kn:List KnV,zra (kn++[k])=zra kn+kW k
 | []=>by simp[zra]
 | x::l=>by simp only[List.cons_append,zra,zbt k l];omega
theorem zd2 (k:KnV) (s:List Txt):∀kn:List KnV,xK (kn++[k]) s=xK kn s+if k.path∈s then 0 else kW k
 | []=>by simp[xK]
 | x::l=>by simp only[List.cons_append,xK,zd2 k s l];omega
theorem cI (kn kn':List KnV):∀l:List TdV,(∀t∈l,isC t=true\/isL t=true)->YV kn l=YV kn' l
 | [],_=>rfl
 | t::l,h=>by
  have h1:=h t (by simp)
  have h2:=cI kn kn' l fun x hx=>h x (by simp[hx])
  simp only[YV,h2]
  cases t<;>simp[isC,isL]at h1<;>rfl
theorem zb9 {r:qG} (h:JN r) (k:KnV) (hk:k.is=true->k.data.length<=1000000):JN (Z2 k r).2:=by
 have h1:=(y9 h).2.1
 unfold Z2
 simp only
 split
 ·exact h1
 split
 ·exact h1
 split
 ·exact h1
 ·rename_i hw hp _
  have hw':(k9 r).waits=true:=by simp_all
  have hp':k.path=(k9 r).asks:=by simp_all
  obtain⟨s,hs⟩:∃s,s=k9 r:=⟨_,rfl⟩
  rw[<-hs]at h1 hw' hp' |-
  rcases h1 with⟨_,h2⟩|⟨l,c,p,e,h2,hc,hh⟩
  ·simp_all
  ·obtain⟨g1,g2,g3⟩:=hh.1 hw'
   rw[g1]at hp'
   refine .inr ⟨l,c,p,e,⟨h2.ord,?_,h2.nc,by grind,?_,h2.buf⟩,hc,fun e=>(by cases e),fun _=>⟨k,DU g2 hp'⟩⟩
   ·obtain⟨a,b,o1,o2,o3⟩:=h2.ord
    have hwt:=h2.wt
    simp only at o1 hwt |-
    rw[cI (s.known++[k]) s.known l (by
     grind),zbt,zd2,hp']
    rw[zeN g2]at hwt
    have hkW:kW k=dn k+1:=rfl
    have hn:=zc3 (DU g2 hp')
    cases c with
    | tr=>grind [itW]
    | there t=>cases t with
     | add=>grind [itW]
     | scan w =>
      rw[if_pos (hc rfl)]
      grind [itW]
   ·intro x hx
    rcases List.mem_append.1 hx with hx|hx
    ·exact h2.dat x hx
    simp_all
end Go.Proofs.YtdkieabmeiojjaaGreatDoor
