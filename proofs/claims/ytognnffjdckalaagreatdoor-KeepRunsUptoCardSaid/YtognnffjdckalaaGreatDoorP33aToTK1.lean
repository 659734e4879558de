/- Outcomes; a row's copy. No condition. -/
import Derived.Test.YtognnffjdckalaaGreatDoorP50ToP37
set_option linter.unusedSimpArgs false
set_option linter.unusedVariables false
set_option linter.unusedSectionVars false
set_option maxRecDepth 100000
namespace Go.Proofs.YtognnffjdckalaaGreatDoor
open Go Go.Ab
open Classical
section
variable [Sel]
structure zV where
 path:List UInt8
 data:List UInt8
deriving DecidableEq
structure zrf where
 kind:Int
 why:Int
 outs:List zV
 reads:List yH
def zC (f:zV):AV:=.agg [.s f.path,.s f.data]
def zI (l:List zV):AV:=.sl .no (l.map zC)
def zaA (o:zrf):AV:=.agg [.i .i64 o.kind,.i .i64 o.why,zI o.outs,qE o.reads]
@[simp] theorem zi0 (f:zV):(zC f).er=zC f:=by simp[zC,AV.er,AV.ers]
@[simp] theorem KT (l:List zV):(zI l).er=zI l:=by simp[zI,AV.er,AV.ers_eq,Function.comp_def]
@[simp] theorem zl3 (o:zrf):(zaA o).er=zaA o:=by simp[zaA,AV.er,AV.ers]
@[simp] theorem zqx (x:zV):(zC x).erk=zC x:=wD _ (zi0 x)
@[simp] theorem zor (x:List zV):(zI x).erk=zI x:=wD _ (KT x)
@[simp] theorem zqL (x:zrf):(zaA x).erk=zaA x:=wD _ (zl3 x)
@[simp] theorem zeX:qL Tryz.prog 158=true:=by kernel_rfl
@[simp] theorem zqg:qN Tryz.prog (.func 158)=false:=JY zeX
end
section
variable [Sel] [SelPow] [SelErr]
abbrev BlL:=List (Dig × List UInt8)
def blobW:List UInt8:=[98,108,111,98]
def traceW:List UInt8:=[116,114,97,99,101]
def wX (x:List UInt8):List UInt8:=k9 [blobW,x]
noncomputable def yS (t:qD):List UInt8:=k9 [traceW,WI t]
def kE (d:Dig) (l:BlL):Bool:=(l.find? fun p=>decide (p.1=d)).isSome
def szB (l:BlL):Nat:=(l.map fun p=>p.2.length).sum
structure MV where
 L:DbL
 bl:BlL
noncomputable def zQ (mo:Nat) (r:List UInt8) (x:MV):MV × Int :=
 if (kO r).2≠0 then(x,3) else match (kO r).1 with
 | [w,s]=>if w=blobW then(⟨x.L,kY (sha s) s x.bl⟩,0) else if w=traceW then(if (jJ s).2=0 then(⟨kU mo x.L (jJ s).1,x.bl⟩,0) else(x,(jJ s).2)) else(x,3)
 | _=>(x,3)
noncomputable def zH (mo:Nat):List (List UInt8)->MV->MV × Int
 | [],x=>(x,0)
 | r::l,x=>if (zQ mo r x).2=0 then zH mo l (zQ mo r x).1 else zQ mo r x
structure KV where
 j:JV
 mo:Nat
 M:MV
noncomputable def kQ (mo:Int) (d:DV):DV × Option KV × Int :=
 if mo<1\/8<mo then(d,none,2) else
 if (openJ d).2.1≠0 then((openJ d).1,none,(openJ d).2.1) else
 if (zH mo.toNat (openJ d).2.2 ⟨[],[]⟩).2≠0 then((openJ d).1,none,(zH mo.toNat (openJ d).2.2 ⟨[],[]⟩).2) else
 ((openJ d).1,some ⟨⟨(openJ d).1,false⟩,mo.toNat,(zH mo.toNat (openJ d).2.2 ⟨[],[]⟩).1⟩,0)
def qR:List zV->JV->BlL->JV × BlL × Int
 | [],j,bl=>(j,bl,0)
 | f::r,j,bl=>if kE (sha f.data) bl then qR r j bl else
  if (addJ (wX f.data) j).2=0 then qR r (addJ (wX f.data) j).1 (kY (sha f.data) f.data bl) else((addJ (wX f.data) j).1,bl,(addJ (wX f.data) j).2)
def Q0 (f:zV):Made:=⟨f.path,sha f.data⟩
noncomputable def w6 (t:qD) (outs:List zV) (k:KV):KV × Int :=
 if qY t≠0 then(k,qY t) else if t.outs≠outs.map Q0 then(k,1) else
 if (qR outs k.j k.M.bl).2.2≠0 then(⟨(qR outs k.j k.M.bl).1,k.mo,⟨k.M.L,(qR outs k.j k.M.bl).2.1⟩⟩,(qR outs k.j k.M.bl).2.2) else
 if (addJ (yS t) (qR outs k.j k.M.bl).1).2≠0 then(⟨(addJ (yS t) (qR outs k.j k.M.bl).1).1,k.mo,⟨k.M.L,(qR outs k.j k.M.bl).2.1⟩⟩,(addJ (yS t) (qR outs k.j k.M.bl).1).2) else
 (⟨(addJ (yS t) (qR outs k.j k.M.bl).1).1,k.mo,⟨kU k.mo k.M.L t,(qR outs k.j k.M.bl).2.1⟩⟩,0)
abbrev wI:=List Dig × List (List UInt8)
def recM (bl:BlL) (m:Made) (s:wI):wI:=match bl.find? (fun p=>decide (p.1=m.sum))with
 | some p=>if m.sum∈s.1 then s else(s.1++[m.sum],s.2++[wX p.2])
 | none=>s
noncomputable def recT (bl:BlL) (t:qD) (s:wI):wI:=((t.outs.foldl (fun s m=>recM bl m s) s).1,(t.outs.foldl (fun s m=>recM bl m s) s).2++[yS t])
noncomputable def recK (x:MV) (k:Dig) (s:wI):wI:=(getD x.L k).reverse.foldl (fun s t=>recT x.bl t s) s
noncomputable def kT (x:MV):wI:=(yB (x.L.map Prod.fst)).foldl (fun s k=>recK x k s) ([],[])
noncomputable def XE (x:MV):MV:=⟨x.L,x.bl.filter fun p=>decide (p.1∈(kT x).1)⟩
noncomputable def yE (k:KV):KV × Int:=if (swapJ (kT k.M).2 k.j).2=0 then(⟨(swapJ (kT k.M).2 k.j).1,k.mo,XE k.M⟩,0) else(⟨(swapJ (kT k.M).2 k.j).1,k.mo,k.M⟩,(swapJ (kT k.M).2 k.j).2)
theorem zd0 {w s:List UInt8} (hw:w.length<1000000000) (hs:s.length<1000000000):kO (k9 [w,s])=([w,s],0):=by
 simp_all[gU]
theorem zdb {mo:Nat} {s:List UInt8} {x:MV} (h:s.length<1000000000):zQ mo (wX s) x=(⟨x.L,kY (sha s) s x.bl⟩,0):=by
 unfold zQ wX
 rw[zd0 (by decide) h,if_neg (by simp)]
 rfl
theorem zbc {mo:Nat} {t:qD} {x:MV} (hd:TrD t) (hc:qY t=0):zQ mo (yS t) x=(⟨kU mo x.L t,x.bl⟩,0):=by
 have hb:WI t=k9 (jK t):=by simp[WI,hc]
 have h7:=WY hd hc
 have hr:=znw hd hc
 unfold zQ yS
 rw[hb,zd0 (by decide) (by omega),if_neg (by simp)]
 simp only
 rw[if_neg (by decide),if_pos trivial,hr,if_pos rfl]
theorem WN {mo:Nat}:∀ {a b:List (List UInt8)} {x y:MV},zH mo a x=(y,0)->zH mo (a++b) x=zH mo b y
 | [],b,x,y,h=>by cases h;rfl
 | r::a,b,x,y,h=>by
  rw[zH]at h
  split at h
  ·simp_all[zH,WN]
  simp_all
theorem GA:∀(m:Nat) {n:Nat} {l:List (List UInt8)} {x:List yH × List Made},l.length<=m->l.length % 2=0->2*n<=l.length->rG n l=some x->x.1.flatMap y7++x.2.flatMap yL=l/\x.1.length=n/\(∀y∈x.1,y.sum.length=32)/\∀y∈x.2,y.sum.length=32
 | m,n,[],x,_,_,h2,h=>by
  rw[ze0]at h;cases h
  have hn:n=0:=by simp at h2;omega
  subst hn
  simp
 | m,n,[p],x,_,h1,_,h=>by simp at h1
 | 0,n,p::s::r,x,hm,_,_,h=>by simp at hm
 | m+1,0,p::s::r,x,hm,h1,h2,h=>by
  unfold rG at h
  split at h
  ·rename_i h32
   obtain⟨y,hy,rfl⟩:=Option.map_eq_some_iff.1 h
   obtain⟨e1,e2,e3,e4⟩:=GA m (by simp at hm;omega) (by simp at h1;omega) (by omega) hy
   have e5:y.1=[]:=List.length_eq_zero_iff.1 e2
   rw[e5]at e1
   simp only[List.flatMap_nil,List.nil_append]at e1
   refine⟨?_,e2,e3,fun z hz=>?_⟩
   ·simp[e5,yL,e1]
   ·rcases List.mem_cons.1 hz with rfl|hz
    ·exact h32
    ·exact e4 z hz
  ·cases h
 | m+1,n+1,p::s::r,x,hm,h1,h2,h=>by
  unfold rG at h
  split at h
  ·rename_i hs0
   obtain⟨y,hy,rfl⟩:=Option.map_eq_some_iff.1 h
   obtain⟨e1,e2,e3,e4⟩:=GA m (by simp at hm;omega) (by simp at h1;omega) (by simp at h2;omega) hy
   refine⟨?_,by simp[e2],fun z hz=>?_,e4⟩
   ·simp only[List.flatMap_cons,List.append_assoc,e1]
    simp[y7,hs0]
   ·rcases List.mem_cons.1 hz with rfl|hz
    ·rfl
    ·exact e3 z hz
  ·split at h
   ·rename_i h32
    obtain⟨y,hy,rfl⟩:=Option.map_eq_some_iff.1 h
    obtain⟨e1,e2,e3,e4⟩:=GA m (by simp at hm;omega) (by simp at h1;omega) (by simp at h2;omega) hy
    refine⟨?_,by simp[e2],fun z hz=>?_,e4⟩
    ·simp only[List.flatMap_cons,List.append_assoc,e1]
     simp[y7]
    ·rcases List.mem_cons.1 hz with rfl|hz
     ·exact h32
     ·exact e3 z hz
   ·cases h
theorem zg4 {l:List (List UInt8)} {t:qD} (h:uI l=(t,0)):jK t=l/\qY t=0/\TrD t:=by
 unfold uI at h
 split at h
 ·rename_i k c r
  split at h
  ·simp at h
  ·rename_i hb
   split at h
   ·simp at h
   ·rename_i n hi
    split at h
    ·simp at h
    ·rename_i hn
     split at h
     ·simp at h
     ·rename_i x hg
      unfold zij at h
      split at h
      ·rename_i hc
       simp only[Prod.mk.injEq,and_true]at h
       subst h
       obtain⟨m,rfl⟩:∃m:Nat,n=(m:Int):=⟨n.toNat,by omega⟩
       simp only[Int.toNat_natCast]at hg
       have hk32:k.length=32:=Classical.byContradiction fun e=>hb (.inr e)
       obtain⟨e1,e2,e3,e4⟩:=GA r.length (Nat.le_refl _) (by omega) (by omega) hg
       refine⟨?_,hc,hk32,e3,e4⟩
       obtain⟨_,hit,_⟩:=XL hi
       simp only[jK,e2,hit,List.append_assoc,e1]
       rfl
      ·rename_i hc
       simp only[Prod.mk.injEq]at h
       exact absurd h.2 hc
 ·simp at h
theorem gF {b:List UInt8} {t:qD} (h:jJ b=(t,0)):k9 (jK t)=b/\qY t=0/\TrD t:=by
 unfold jJ at h
 split at h
 ·rename_i he
  rw[cW]at h
  obtain⟨h1,h2,h3⟩:=zg4 h
  refine⟨?_,h2,h3⟩
  rw[h1]
  exact PU (by rw[<-he])
 ·rename_i he
  simp only[Prod.mk.injEq]at h
  exact absurd h.2 he
theorem zca {t:qD} (h:qY t=0):TrP t:=by
 obtain⟨h1,h2⟩:=Q3 h
 obtain⟨h3,h4⟩:=JO h
 refine⟨⟨by omega,fun r hr=>?_⟩,by omega,fun m hm=>?_⟩
 ·have:=ZV (ZW h3 r hr).1
  omega
 ·have hu:=KG h4 m hm
  simp only[wF,Bool.and_eq_true]at hu
  have:=ZV hu.1
  omega
noncomputable def wtT (t:qD):Nat:=12+(yS t).length
def wtB (s:List UInt8):Nat:=12+(wX s).length
noncomputable def xU (l:List qD):Nat:=(l.map wtT).sum
noncomputable def G4 (L:DbL):Nat:=(L.map fun p=>xU p.2).sum
def uP (l:BlL):Nat:=(l.map fun p=>wtB p.2).sum
def wtR (l:List (List UInt8)):Nat:=(l.map fun r=>12+r.length).sum
theorem ZL:∀l:List (List UInt8),(qJ l).length=wtR l
 | []=>rfl
 | r::l=>by
  have ih:=ZL l
  have e:qJ (r::l)=frame r++qJ l:=rfl
  rw[e,List.length_append,QD,ih];rfl
theorem zdT (a b:List (List UInt8)):wtR (a++b)=wtR a+wtR b:=by simp[wtR]
theorem zlm (a:List qD):xU a.reverse=xU a:=by simp[xU,List.map_reverse]
theorem zln {a b:List qD} (h:a.Sublist b):xU a<=xU b:=by
 induction h with
 | slnil=>omega
 | cons x _ ih=>grind [xU]
 | cons_cons x _ ih=>simp_all[xU]
theorem zgP {k:Dig} {v:List qD}:∀ {L:DbL},G4 (Q5 k v L)+xU (getD L k)=G4 L+xU v
 | []=>by simp[Q5,G4,getD,xU]
 | (k',v')::r=>by
  have ih:=zgP (k:=k) (v:=v) (L:=r)
  by_cases h:k'=k
  ·simp only[Q5,h,if_true,G4,List.map_cons,List.sum_cons,getD,List.find?_cons,decide_true];omega
  ·simp only[Q5,h,if_false,G4,List.map_cons,List.sum_cons,getD,List.find?_cons,decide_false]at ih |-
   omega
theorem zq1 (mo:Nat) (t:qD) (ts:List qD):xU (yG mo t ts)<=wtT t+xU ts:=by
 have h:(yG mo t ts).Sublist (t::ts):=(List.take_sublist _ _).trans (List.Sublist.cons_cons _ List.filter_sublist)
 have:=zln h
 assumption
theorem zmR {mo:Nat} {L:DbL} {t:qD}:G4 (kU mo L t)<=G4 L+wtT t:=by
 grind [kU,zgP,zq1]
theorem znz {s:List UInt8} {d:Dig} {l:BlL}:uP (kY d s l)<=uP l+wtB s:=by
 grind [kY,uP]
def TrG (t:qD):Prop:=TrD t/\qY t=0
theorem TrG.W {t:qD} (h:TrG t):TrW t:=zlr (zca h.2) h.2
structure wW (mo N:Nat) (x:MV):Prop where
 ok:OKD x.L
 tr:∀p∈x.L,p.1.length=32/\∀t∈p.2,TrG t
 row:∀k,(getD x.L k).length<=mo
 rn:∀k,(getD x.L k).Nodup
 nd:(x.bl.map Prod.fst).Nodup
 sh:∀p∈x.bl,p.1=sha p.2
 le:G4 x.L+uP x.bl<=N
structure ZA (N:Nat) (k:KV):Prop where
 mem:wW k.mo N k.M
 ok:DOK k.j.d
 m:szF k.j.d.m<=N
 n:szF k.j.d.n<=N
 lo:1<=k.mo
 hi:k.mo<=8
theorem wW.nil {mo:Nat}:wW mo 0 ⟨[],[]⟩:=⟨ziu,by simp,by simp[getD],by simp[getD],by simp,by simp,by simp[G4,uP]⟩
theorem wW.up {mo N N':Nat} {x:MV} (h:wW mo N x) (hN:N<=N'):wW mo N' x:={ h with le:=Nat.le_trans h.le hN }
theorem KR {d:Dig} {s:List UInt8} {l:BlL} {e:Dig}:((kY d s l).find? fun p=>decide (p.1=e))=if kE e l=true then l.find? (fun p=>decide (p.1=e)) else if d=e then some (d,s) else none:=by
 unfold kY kE
 grind
theorem zoQ {d:Dig} {s:List UInt8} {l:BlL} (h:(l.map Prod.fst).Nodup):((kY d s l).map Prod.fst).Nodup:=by
 unfold kY
 grind
theorem zo4 {d:Dig} {s:List UInt8} {l:BlL} {p:Dig × List UInt8} (h:p∈kY d s l):p∈l\/p=(d,s):=by
 grind [kY]
theorem wW.put {mo N:Nat} {x:MV} (h:wW mo N x) (s:List UInt8):wW mo (N+wtB s) ⟨x.L,kY (sha s) s x.bl⟩ :=
 ⟨h.ok,h.tr,h.row,h.rn,zoQ h.nd,fun p hp=>by
  rcases zo4 hp with h1|rfl
  ·exact h.sh p h1
  ·rfl,by have:=znz (s:=s) (d:=sha s) (l:=x.bl);have:=h.le;grind⟩
theorem wW.add {mo N:Nat} {x:MV} (h:wW mo N x) (hm:1<=mo) {t:qD} (ht:TrG t):wW mo (N+wtT t) ⟨kU mo x.L t,x.bl⟩:=by
 refine⟨ziY hm h.ok t,?_,fun q=>?_,fun q=>?_,h.nd,h.sh,?_⟩
 ·exact ziL (Q:=TrG) (K:=fun k=>k.length=32) h.tr ht ht.1.1
 ·show (getD (kU mo x.L t) q).length<=mo
  rw[xT]
  unfold zaN
  split
  ·simp[za7]
  ·exact h.row q
 ·show (getD (kU mo x.L t) q).Nodup
  rw[xT]
  unfold zaN
  split
  ·exact zh0 (h.rn q)
  ·exact h.rn q
 ·have:=zmR (mo:=mo) (L:=x.L) (t:=t)
  have:=h.le
  grind
theorem zan {mo:Nat} {r:List UInt8} {x y:MV} (h:zQ mo r x=(y,0)):(∃s,r=wX s/\y=⟨x.L,kY (sha s) s x.bl⟩)\/∃t,TrG t/\r=yS t/\y=⟨kU mo x.L t,x.bl⟩:=by
 unfold zQ at h
 split at h
 ·cases h
 rename_i ht
 have hr:=PU (b:=r) (l:=(kO r).1) (by grind)
 split at h
 ·rename_i w s hl
  rw[hl]at hr
  split at h
  ·rename_i hw
   cases h
   exact .inl ⟨s,by rw[<-hr,hw];rfl,rfl⟩
  split at h
  ·rename_i hw
   split at h
   ·rename_i hs
    cases h
    obtain⟨b1,b2,b3⟩:=gF (b:=s) (t:=(jJ s).1) (by rw[<-hs])
    refine .inr ⟨_,⟨b3,b2⟩,?_,rfl⟩
    simp_all[yS,WI]
   simp_all
  ·cases h
 ·cases h
theorem wW.load {mo N:Nat} (hm:1<=mo) {r:List UInt8} {x y:MV} (h:wW mo N x) (hl:zQ mo r x=(y,0)):wW mo (N+(12+r.length)) y:=by
 rcases zan hl with⟨s,rfl,rfl⟩|⟨t,ht,rfl,rfl⟩
 ·exact h.put s
 ·exact h.add hm ht
theorem wW.loads {mo:Nat} (hm:1<=mo):∀ {l:List (List UInt8)} {N:Nat} {x y:MV},wW mo N x->zH mo l x=(y,0)->wW mo (N+wtR l) y
 | [],N,x,y,h,e=>by cases e;assumption
 | r::l,N,x,y,h,e=>by
  rw[zH]at e
  split at e
  ·rename_i h1
   have:=wW.loads hm (h.load hm (y:=(zQ mo r x).1) (by rw[<-h1])) e
   grind [wtR]
  simp_all
end
section
variable [Sel]
def Z1 (ver:Nat->Nat):Option Nat->Tok
 | none=>.full
 | some k=>.own k (ver k)
theorem jV {P:Program} {s:St} {d:Nat} {o:Option Nat} {e:TypeId} {xs ys:List AV} {K:St->Prop} (h1:2*(xs.length+ys.length)*P.bytesOf e<=281474976710656) (h2:xs.length+ys.length<=4611686018427387904) (h3:zB P e=true) (h4:j8 P e=true)
  (hk:∀ver',K (({ s with ver:=ver' }:St).put (some d) (.av (.slice e) (.sl (Z1 ver' (some d)) (xs++ys))))):qQ P s d e (Z1 s.ver o) xs ys K:=by
 refine⟨h1,h2,h3,h4,?_⟩
 cases o with
 | none=>simpa[Z1,upd]using hk (upd s.ver d (s.ver d+1))
 | some k=>exact⟨rfl,by simpa[Z1,upd]using hk (upd (upd s.ver k (s.ver k+1)) d (s.ver d+1))⟩
end
end Go.Proofs.YtognnffjdckalaaGreatDoor
