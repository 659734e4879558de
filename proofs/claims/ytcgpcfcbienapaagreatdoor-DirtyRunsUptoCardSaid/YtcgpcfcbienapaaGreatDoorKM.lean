/- A tool comes to an end: plain. No condition beyond each theorem's own. -/
import Derived.Test.YtcgpcfcbienapaaGreatDoorQ0ToK5
import Derived.Lib.ItoaLen
set_option linter.unusedSimpArgs false
set_option linter.unusedVariables false
set_option linter.unusedSectionVars false
set_option maxRecDepth 100000
/-! A tool comes to an end: plain. -/
namespace Go.Proofs.YtcgpcfcbienapaaGreatDoor
open Go Go.Ab
open Classical
variable [Sel] [SelPow] [SelMax]

def dn (k:KnV):Nat:=if k.is=true then(z7 k.data).length else 0
def kW (k:KnV):Nat:=dn k+1
def nlW (kn:List KnV) (p:Txt):Nat:=match zQ kn p with
 | some k=>dn k
 | none=>0
def itW (kn:List KnV):TdV→Nat
 | .cmd _=>0
 | .ans (.there (.scan _)) p=>1+nlW kn p
 | .ans _ _=>1
 | .line _ _=>1
def Y6 (kn:List KnV):List TdV→Nat
 | []=>0
 | t::l=>itW kn t+Y6 kn l
def xY:List KnV→Nat
 | []=>0
 | k::l=>kW k+xY l
noncomputable def YN:List KnV→List Txt→Nat
 | [],_=>0
 | k::l,s=>(if k.path∈s then 0 else kW k)+YN l s
def isC:TdV→Bool
 | .cmd _=>true
 | _=>false
theorem KY (kn:List KnV):∀a b:List TdV,Y6 kn (a++b)=Y6 kn a+Y6 kn b
 | [],b=>by simp[Y6]
 | t::a,b=>by simp only[List.cons_append,Y6,KY kn a b];omega
theorem UP (kn:List KnV) (w:Txt):∀l:List Txt,Y6 kn (l.map fun s=>.line s w)=l.length
 | []=>rfl
 | s::l=>by simp only[List.map_cons,Y6,itW,UP kn w l,List.length_cons];omega
theorem u6 (kn:List KnV):∀l:List TdV,(∀t∈l,isC t=true)→Y6 kn l=0
 | [],_=>rfl
 | t::l,h=>by
  have h1:=h t (by simp)
  cases t<;>simp[isC]at h1
  simp only[Y6,itW,u6 kn l fun x hx=>h x (by simp[hx])]
theorem G9 (kn:List KnV):∀l:List TdV,l.length≤l.countP isC+Y6 kn l
 | []=>by simp
 | t::l=>by
  have:=G9 kn l
  rw[List.countP_cons]
  simp only[Y6,List.length_cons]
  cases t with
  | cmd c=>simp only[isC,itW,if_true];omega
  | ans k p =>
   cases k with
   | there t=>cases t<;>simp only[isC,itW]<;>simp<;>omega
   | tr=>grind [itW]
  | line s w=>grind [itW]
theorem zbH:∀(kn:List KnV) (s:List Txt),YN kn s≤xY kn
 | [],_=>by simp[YN]
 | k::l,s=>by
  have:=zbH l s
  simp only[YN,xY]
  split<;>omega
theorem x6 (p:Txt) (s:List Txt):∀kn:List KnV,YN kn (s++[p])≤YN kn s
 | []=>by simp[YN]
 | k::l=>by
  have:=x6 p s l
  simp only[YN,List.mem_append,List.mem_singleton]
  grind
theorem D5 (k:KnV) (l:List KnV) (p:Txt):zQ (k::l) p=if k.path=p then some k else zQ l p:=by
 grind [zQ]
theorem KP {kn:List KnV} {p:Txt} {k:KnV} (h:zQ kn p=some k):k∈kn∧k.path=p:=by
 have h1:=List.mem_of_find?_eq_some h
 have h2:=List.find?_some h
 simp_all
theorem zas (p:Txt) (s:List Txt) (hp:p∉s):∀(kn:List KnV) {k:KnV},zQ kn p=some k→YN kn (s++[p])+kW k≤YN kn s
 | [],k,h=>by grind [zQ]
 | x::l,k,h=>by
  rw[D5]at h
  simp only[YN,List.mem_append,List.mem_singleton]
  by_cases e:x.path=p
  ·rw[if_pos e]at h
   cases h
   have:=x6 p s l
   grind
  ·rw[if_neg e]at h
   have:=zas p s hp l h
   grind
theorem zmM {kn:List KnV} (h:∀k∈kn,k.is=true→k.data.length≤1000000):xY kn≤kn.length*1000002:=by
 induction kn with
 | nil=>simp[xY]
 | cons k l ih =>
  grind [ZE,dn,xY,kW]
/-! ### what a step leaves as it is -/
structure kM (r r':zCT):Prop where
 td:r'.todo=r.todo
 kn:r'.known=r.known
 se:r'.seen=r.seen
 wa:r'.waits=r.waits
 ak:r'.asks=r.asks
 en:r'.env=r.env
 bu:r.buf.length≤65536→r'.buf.length≤65536
theorem kM.refl (r:zCT):kM r r:=⟨rfl,rfl,rfl,rfl,rfl,rfl,id⟩
theorem kM.fail (e:Int) (r:zCT):kM r (wC e r):=⟨rfl,rfl,rfl,rfl,rfl,rfl,id⟩
theorem kM.add (s:Txt) (r:zCT):kM r (wW s r):=by
 unfold wW
 split
 ·simp[fail]
 ·refine⟨rfl,rfl,rfl,rfl,rfl,rfl,fun h=>?_⟩
  simp_all
theorem kM.trans {a b c:zCT} (h:kM a b) (g:kM b c):kM a c :=
 ⟨g.td.trans h.td,g.kn.trans h.kn,g.se.trans h.se,g.wa.trans h.wa,g.ak.trans h.ak,g.en.trans h.en,fun x=>g.bu (h.bu x)⟩
theorem kM.buf (b:Txt) (r:zCT) (h:b.length≤65536):kM r { r with buf:=b }:=⟨rfl,rfl,rfl,rfl,rfl,rfl,fun _=>h⟩
theorem kM.setLines (l:List Txt) (r:zCT):kM r (kS l r):=(kM.buf [] r (by simp)).trans (.add _ _)
theorem kM.turn (n a:Txt) (r:zCT) (hb:r.buf.length≤65536):kM r (wK n a r):=by
 unfold wK
 split
 ·simp[setLines]
 split
 ·simp[setLines]
 split
 ·simp_all[buf]
 split
 ·grind [buf,ZE,Lib.itoa_length_le]
 grind [setLines,refl]
/-! ### the invariant -/
def isL:TdV→Bool
 | .line _ _=>true
 | _=>false
structure JR (z:Nat) (r:zCT):Prop where
 ord:∃a b,r.todo=a++b∧(∀t∈a,isC t=true)∧(∀t∈b,isL t=true)
 wt:Y6 r.known r.todo+YN r.known r.seen+z≤xY r.known+1
 nc:r.todo.countP isC≤400
 nk:r.known.length≤500
 dat:∀k∈r.known,k.is=true→k.data.length≤1000000
 buf:r.buf.length≤65536
noncomputable def MR (r:zCT):Nat:=r.todo.countP isC*(xY r.known+3)+(Y6 r.known r.todo+YN r.known r.seen)
theorem JR.mono {z z':Nat} {r:zCT} (h:JR z r) (hz:z'≤z):JR z' r:={ h with wt:=by have:=h.wt;omega }
theorem kM.inv {z:Nat} {r r':zCT} (h:kM r r') (hi:JR z r):JR z r':=by
 obtain⟨h1,h2,h3,h4,h5,h6,h7⟩:=h
 refine⟨?_,?_,?_,?_,?_,h7 hi.buf⟩
 ·rw[h1];exact hi.ord
 ·rw[h1,h2,h3];exact hi.wt
 ·rw[h1];exact hi.nc
 ·rw[h2];exact hi.nk
 ·rw[h2];exact hi.dat
theorem kM.mr {r r':zCT} (h:kM r r'):MR r'=MR r:=by unfold MR;rw[h.td,h.kn,h.se]
theorem JR.len {z:Nat} {r:zCT} (h:JR z r):r.todo.length≤600000000:=by
 have h1:=G9 r.known r.todo
 have h2:=zmM h.dat
 have h3:=h.wt
 have h4:=h.nc
 have h5:=h.nk
 omega
def U8:CoV→Bool
 | .there (.scan _)=>true
 | _=>false
def JF (r:zCT):Prop:=(JR 0 r∧r.waits=false)∨∃l k p,r.todo=l++[.ans k p]∧JR (itW r.known (.ans k p)) { r with todo:=l }∧(U8 k=true→p∈r.seen)∧(r.waits=true→r.asks=p∧zQ r.known p=none∧r.known.length<500)∧(r.waits=false→∃x,zQ r.known p=some x)
theorem JR.lines {z:Nat} {r:zCT} (h:JR z r) (w:Txt) (l:List Txt) (hl:l.length≤z):JR 0 { r with todo:=r.todo++l.map fun s=>.line s w }∧MR { r with todo:=r.todo++l.map fun s=>.line s w }=MR r+l.length:=by
 obtain⟨a,b,h1,h2,h3⟩:=h.ord
 have hc:(l.map fun s=>TdV.line s w).countP isC=0:=by
  simp[isC]
 refine⟨⟨⟨a,b++l.map fun s=>.line s w,by simp[h1],h2,?_⟩,?_,?_,h.nk,h.dat,h.buf⟩,?_⟩
 ·intro t ht
  rcases List.mem_append.1 ht with h4|h4
  ·exact h3 t h4
  ·obtain⟨s,_,rfl⟩:=List.mem_map.1 h4;rfl
 ·have:=h.wt
  simp only[KY,UP]
  omega
 ·simp only[List.countP_append,hc];exact h.nc
 ·simp only[MR,KY,UP,List.countP_append,hc,Nat.add_zero];omega
def cW:CoV→KnV→Nat
 | .there (.scan _),x=>dn x
 | _,_=>0
theorem zgm {z:Nat} {r:zCT} (h:JR z r) (k:CoV) (x:KnV) (hc:cW k x≤z):JR 0 (coR k x r)∧MR (coR k x r)≤MR r+cW k x∧(coR k x r).known=r.known∧(coR k x r).waits=r.waits:=by
 have same:∀ {r'},kM r r'→JR 0 r'∧MR r'≤MR r+cW k x∧r'.known=r.known∧r'.waits=r.waits:=fun hs=>⟨(hs.inv h).mono (Nat.zero_le _),by rw[hs.mr];omega,hs.kn,hs.wa⟩
 cases hx:x.is with
 | false =>
  cases k with
  | tr=>rw[show coR .tr x r=r by simp[coR,hx]];exact same (.refl _)
  | there t=>rw[show coR (.there t) x r=wC 10 r by simp[coR,hx]];exact same (.fail _ _)
 | true =>
  cases k with
  | tr=>rw[show coR .tr x r=wW x.data r by simp[coR,hx]];exact same (.add _ _)
  | there t =>
   cases t with
   | add=>rw[show coR (.there .add) x r=wW x.data r by simp[coR,hx,thR]];exact same (.add _ _)
   | scan w =>
    have h1:=h.lines w (z7 x.data).reverse (by simp_all[cW,dn])
    simp_all[coR,thR,cW,dn]
theorem zbM {kn:List KnV} {p:Txt} {x:KnV} (h:zQ kn p=some x):nlW kn p=dn x:=by simp[nlW,h]
theorem DG {kn:List KnV} {p:Txt} (h:zQ kn p=none):nlW kn p=0:=by simp[nlW,h]
theorem zd0 {kn:List KnV} {p:Txt} (h:zQ kn p=none) (k:CoV):itW kn (.ans k p)=1:=by
 cases k with
 | tr=>rfl
 | there t=>cases t<;>simp[itW,DG h]
theorem cE {z:Nat} {r:zCT} (h:JR z r) (hw:r.waits=false) (hz:1≤z) (p:Txt) (k:CoV) (hk:U8 k=true→nlW r.known p≤z∧p∈r.seen) :
  JF (Q6 p k r)∧((Q6 p k r).waits=true∨MR (Q6 p k r)≤MR r+if U8 k=true then nlW r.known p else 0)∧(Q6 p k r).known=r.known:=by
 unfold Q6
 cases hf:zQ r.known p with
 | some x =>
  have hc:cW k x≤z∧cW k x≤if U8 k=true then nlW r.known p else 0:=by
   have hn:=zbM hf
   cases k with
   | tr=>simp[cW]
   | there t=>cases t with
    | add=>simp[cW]
    | scan w =>
     simp_all[cW,U8]
  obtain⟨h1,h2,h3,h4⟩:=zgm h k x hc.1
  exact⟨.inl ⟨h1,h4.trans hw⟩,.inr (Nat.le_trans h2 (by omega)),h3⟩
 | none =>
  simp only
  split
  ·exact⟨.inl ⟨((kM.fail 6 r).inv h).mono (Nat.zero_le _),hw⟩,.inr (by rw[(kM.fail 6 r).mr];omega),rfl⟩
  ·rename_i hlt
   refine⟨.inr ⟨r.todo,k,p,rfl,⟨h.ord,?_,h.nc,h.nk,h.dat,h.buf⟩,fun e=>(hk e).2,fun _=>⟨rfl,hf,by simp_all⟩,fun e=>by cases e⟩,.inl rfl,rfl⟩
   have:=h.wt
   grind [zd0]
theorem zaL {r:zCT} (h:JR 1 r) (hw:r.waits=false) (p w:Txt) (hp:p∉r.seen) :
  JF (ZL p w r)∧((ZL p w r).waits=true∨MR (ZL p w r)≤MR r)∧(ZL p w r).known=r.known:=by
 unfold ZL
 have hle:YN r.known (r.seen++[p])+nlW r.known p≤YN r.known r.seen:=by
  cases hf:zQ r.known p with
  | none=>simp_all[DG,x6]
  | some x =>
   rw[zbM hf]
   have:=zas p r.seen hp r.known hf
   grind [kW]
 have hi:JR (1+nlW r.known p) { r with seen:=r.seen++[p] }:=by
  refine⟨h.ord,?_,h.nc,h.nk,h.dat,h.buf⟩
  have:=h.wt
  grind
 obtain⟨h1,h2,h3⟩:=cE hi hw (by omega) p (.there (.scan w)) (fun _=>⟨by simp,by simp⟩)
 refine⟨h1,?_,h3⟩
 rcases h2 with h2|h2
 ·exact .inl h2
 ·refine .inr (Nat.le_trans h2 ?_)
  simp only[U8,if_true,MR]
  omega
theorem kM.invT {z:Nat} {r r':zCT} (h:kM r r') (hi:JR z r) (hw:r.waits=false) (m:Nat):JF r'∧(r'.waits=true∨MR r'≤MR r+m)∧r'.known=r.known :=
 ⟨.inl ⟨(h.inv hi).mono (Nat.zero_le _),h.wa.trans hw⟩,.inr (by rw[h.mr];omega),h.kn⟩
theorem zhl {r:zCT} (h:JR 1 r) (hw:r.waits=false) (s w:Txt):JF (Z1 s w r)∧((Z1 s w r).waits=true∨MR (Z1 s w r)≤MR r)∧(Z1 s w r).known=r.known:=by
 unfold Z1
 split
 ·split
  ·exact(kM.add _ _).invT h hw 0
  split
  ·exact(kM.refl _).invT h hw 0
  simp_all[zaL]
 ·exact(kM.add _ _).invT h hw 0
theorem zmh {r:zCT} (h:JR 1 r) (hw:r.waits=false) (hcm:∀t∈r.todo,isC t=true) (c:CmdV):JF (doR c r)∧((doR c r).waits=true∨MR (doR c r)≤MR r+xY r.known)∧(doR c r).known=r.known:=by
 unfold doR
 simp only
 split
 ·grind [cE,U8]
 split
 ·grind [cE,U8]
 split
 ·have h0:=u6 r.known r.todo hcm
  have hu:=zbH r.known []
  have hi:JR 1 { r with seen:=[] }:=by
   refine⟨h.ord,?_,h.nc,h.nk,h.dat,h.buf⟩
   simp_all
  grind [zaL,MR]
 split
 ·exact(kM.add _ _).invT h hw _
 split
 ·split
  ·exact(kM.add _ _).invT h hw _
  ·exact(kM.fail _ _).invT h hw _
 split
 ·exact kM.invT (r:=r) (r':={ r with over:=⟨2,c.words.getD 1 [],r.buf,0⟩,buf:=[] }) ⟨rfl,rfl,rfl,rfl,rfl,rfl,fun _=>Nat.zero_le _⟩ h hw _
 split
 ·split
  ·exact(kM.refl _).invT h hw _
  ·exact(kM.fail _ _).invT h hw _
 split
 ·exact(kM.fail _ _).invT h hw _
 ·exact(kM.turn _ _ _ h.buf).invT h hw _
theorem JR.pop {r:zCT} {l:List TdV} {t:TdV} (h:JR 0 r) (e:r.todo=l++[t]):(isC t=true∧(∀x∈l,isC x=true)∧JR 1 { r with todo:=l }∧MR { r with todo:=l }+(xY r.known+3)≤MR r)∨(isL t=true∧JR 1 { r with todo:=l }∧MR { r with todo:=l }+1≤MR r):=by
 obtain⟨a,b,h1,h2,h3⟩:=h.ord
 have hnc:=h.nc
 have hwt:=h.wt
 rw[e,List.countP_append]at hnc
 rw[e,KY]at hwt
 rcases List.eq_nil_or_concat b with rfl|⟨b',x,rfl⟩
 ·rw[e,List.append_nil]at h1
  subst h1
  have ht:=h2 t (by simp)
  have hl:∀x∈l,isC x=true:=fun x hx=>h2 x (by simp[hx])
  refine .inl ⟨ht,hl,⟨⟨l,[],by simp,hl,by simp⟩,?_,by grind,h.nk,h.dat,h.buf⟩,?_⟩
  ·simp_all[u6,zbH]
  ·simp only[MR,e,List.countP_append,KY,List.countP_cons,List.countP_nil,ht,if_true]
   grind
 ·rw[e,List.concat_eq_append,←List.append_assoc]at h1
  obtain⟨h5,h6⟩:=List.append_inj' h1 rfl
  cases h6
  have ht:=h3 t (by simp)
  have hl:∀x∈b',isL x=true:=fun x hx=>h3 x (by simp_all)
  have hi:itW r.known t=1:=by cases t<;>simp[isL]at ht;rfl
  have hcn:isC t=false:=by cases t<;>simp[isL]at ht;rfl
  simp only[Y6,hi]at hwt
  refine .inr ⟨ht,⟨⟨a,b',h5,h2,hl⟩,?_,by simp_all,h.nk,h.dat,h.buf⟩,?_⟩
  ·grind
  ·simp only[MR,e,List.countP_append,KY,List.countP_cons,List.countP_nil,hcn,Y6,hi]
   grind
theorem KV {r:zCT} {l:List TdV} {t:TdV} (e:r.todo=l++[t]):QL r=tdR t { r with todo:=l }:=by
 simp_all[QL]
theorem KT {r:zCT} (e:r.todo=[]):QL r={ r with over:=⟨3,[],[],0⟩ }:=by
 simp_all[QL]
theorem gV {r:zCT} (h:JF r) (hs:kL r=false):JF (QL r)∧(kL (QL r)=true∨MR (QL r)<MR r)∧(QL r).known=r.known:=by
 have hw:r.waits=false:=by
  simp_all[kL]
 have st:∀ {r':zCT},r'.waits=true→kL r'=true:=fun h=>by simp[kL,h]
 rcases h with⟨h,_⟩|⟨l,k,p,e,h,hk,_⟩
 ·rcases List.eq_nil_or_concat r.todo with e|⟨l,t,e⟩
  ·rw[KT e]
   exact⟨.inl ⟨⟨h.ord,h.wt,h.nc,h.nk,h.dat,h.buf⟩,hw⟩,.inl (by simp[kL]),rfl⟩
  ·rw[List.concat_eq_append]at e
   rw[KV e]
   rcases h.pop e with⟨h1,h2,h3,h4⟩|⟨h1,h3,h4⟩
   ·cases t<;>simp[isC]at h1
    grind [zmh,tdR]
   ·cases t<;>simp[isL]at h1
    grind [zhl,tdR]
 ·rw[KV e]
  have hc:cW k ((zQ r.known p).getD kn0)+1≤itW r.known (.ans k p):=by
   cases k with
   | tr=>simp[cW,itW]
   | there t=>cases t with
    | add=>simp[cW,itW]
    | scan w =>
     grind [cW,itW,zbM]
  obtain⟨g1,g2,g3,g4⟩:=zgm h k ((zQ r.known p).getD kn0) (by omega)
  refine⟨.inl ⟨g1,g4.trans hw⟩,.inr ?_,g3⟩
  have hcn:isC (.ans k p)=false:=rfl
  simp only[tdR]
  refine Nat.lt_of_le_of_lt g2 ?_
  simp only[MR,e,List.countP_append,KY,List.countP_cons,List.countP_nil,hcn,Y6,Nat.add_zero,Bool.false_eq_true,if_false]
  omega
theorem zg0:∀(n:Nat) (r:zCT),JF r→MR r<n→∃r',runN (n+1) r=some r'∧JF r'∧kL r'=true∧r'.known=r.known
 | 0,r,_,h=>absurd h (Nat.not_lt_zero _)
 | n+1,r,hi,h=>by
  rw[runN]
  by_cases hs:kL r=true
  ·simp_all
  rw[if_neg hs]
  obtain⟨h1,h2,h3⟩:=gV hi (by simp_all)
  by_cases hs2:kL (QL r)=true
  ·simp_all[runN]
  ·have h4:=h2.resolve_left hs2
   obtain⟨r',g1,g2,g3,g4⟩:=zg0 n (QL r) h1 (by omega)
   simp_all
noncomputable def kI (r:zCT):zCT:=(runN (MR r+2) r).getD r
theorem yW {r:zCT} (h:JF r):runN (MR r+2) r=some (kI r)∧JF (kI r)∧kL (kI r)=true∧(kI r).known=r.known:=by
 obtain⟨r',h1,h2,h3,h4⟩:=zg0 (MR r+1) r h (by omega)
 simp_all[kI]
noncomputable def w9 (r:zCT):DoV × zCT :=
 let s:=kI r
 if s.waits=true then(⟨1,s.asks,[],0⟩,s) else(s.over,if s.over.kind=2 then { s with over:=do0 } else s)
noncomputable def QB (k:KnV) (r:zCT):Int × zCT :=
 let s:=kI r
 if s.waits=false then(19,s) else if k.path≠s.asks then(1,s) else if k.is=true∧65536<k.data.length then(6,s) else(0,{ s with known:=s.known++[k],asks:=[],waits:=false })
theorem JF.of_same {r r':zCT} (h:JF r) (h1:r'.todo=r.todo) (h2:r'.known=r.known) (h3:r'.seen=r.seen) (h4:r'.waits=r.waits) (h5:r'.asks=r.asks) (h6:r'.buf=r.buf):JF r':=by
 unfold JF at *
 rcases h with⟨h,hw⟩|⟨l,k,p,e,h,hk,hh⟩
 ·exact .inl ⟨⟨by rw[h1];exact h.ord,by rw[h1,h2,h3];exact h.wt,by rw[h1];exact h.nc,by rw[h2];exact h.nk,by rw[h2];exact h.dat,by rw[h6];exact h.buf⟩,h4.trans hw⟩
 ·refine .inr ⟨l,k,p,h1.trans e,?_,by simp_all,by simp_all⟩
  rw[h2]
  exact⟨h.ord,by have:=h.wt;simp_all,h.nc,by simpa only[h2]using h.nk,by simpa only[h2]using h.dat,by simpa only[h6]using h.buf⟩
theorem d5 {kn:List KnV} {p:Txt} {k:KnV} (h:zQ kn p=none) (hk:k.path=p):zQ (kn++[k]) p=some k:=by
 grind [zQ]
theorem zaD (k:KnV):∀kn:List KnV,xY (kn++[k])=xY kn+kW k
 | []=>by simp[xY]
 | x::l=>by simp only[List.cons_append,xY,zaD k l];omega
theorem zcm (k:KnV) (s:List Txt):∀kn:List KnV,YN (kn++[k]) s=YN kn s+if k.path∈s then 0 else kW k
 | []=>by simp[YN]
 | x::l=>by simp only[List.cons_append,YN,zcm k s l];omega
theorem cZ (kn kn':List KnV):∀l:List TdV,(∀t∈l,isC t=true∨isL t=true)→Y6 kn l=Y6 kn' l
 | [],_=>rfl
 | t::l,h=>by
  have h1:=h t (by simp)
  have h2:=cZ kn kn' l fun x hx=>h x (by simp[hx])
  simp only[Y6,h2]
  cases t<;>simp[isC,isL]at h1<;>rfl
theorem zae {r:zCT} (h:JF r) (k:KnV) (hk:k.is=true→k.data.length≤1000000):JF (QB k r).2:=by
 have h1:=(yW h).2.1
 unfold QB
 simp only
 split
 ·exact h1
 split
 ·exact h1
 split
 ·exact h1
 ·rename_i hw hp _
  have hw':(kI r).waits=true:=by simp_all
  have hp':k.path=(kI r).asks:=by simp_all
  obtain⟨s,hs⟩:∃s,s=kI r:=⟨_,rfl⟩
  rw[←hs]at h1 hw' hp' ⊢
  rcases h1 with⟨_,h2⟩|⟨l,c,p,e,h2,hc,hh⟩
  ·simp_all
  ·obtain⟨g1,g2,g3⟩:=hh.1 hw'
   rw[g1]at hp'
   refine .inr ⟨l,c,p,e,⟨h2.ord,?_,h2.nc,by grind,?_,h2.buf⟩,hc,fun e=>(by cases e),fun _=>⟨k,d5 g2 hp'⟩⟩
   ·obtain⟨a,b,o1,o2,o3⟩:=h2.ord
    have hwt:=h2.wt
    simp only at o1 hwt ⊢
    rw[cZ (s.known++[k]) s.known l (by
     grind),zaD,zcm,hp']
    rw[zd0 g2]at hwt
    have hkW:kW k=dn k+1:=rfl
    have hn:=zbM (d5 g2 hp')
    cases c with
    | tr=>grind [itW]
    | there t=>cases t with
     | add=>grind [itW]
     | scan w =>
      rw[if_pos (hc rfl)]
      grind [itW]
   ·intro x hx
    rcases List.mem_append.1 hx with hx|hx
    ·exact h2.dat x hx
    simp_all
end Go.Proofs.YtcgpcfcbienapaaGreatDoor
