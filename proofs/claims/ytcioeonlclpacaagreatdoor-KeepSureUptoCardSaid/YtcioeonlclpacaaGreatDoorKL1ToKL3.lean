/- What is kept, written as records and read again: plain. No condition beyond each theorem's own. -/
import Derived.Test.YtcioeonlclpacaaGreatDoorKE5ToKL0
set_option linter.unusedSimpArgs false
set_option linter.unusedVariables false
set_option linter.unusedSectionVars false
section
set_option maxRecDepth 100000
namespace Go.Proofs.YtcioeonlclpacaaGreatDoor
open Go Go.Ab
open Classical
variable [Sel] [SelPow] [SelErr]
structure MEq (x y:MV):Prop where
 g:∀q,getD x.L q=getD y.L q
 f:∀d,x.bl.find? (fun p=>decide (p.1=d))=y.bl.find? (fun p=>decide (p.1=d))
theorem MEq.refl (x:MV):MEq x x:=⟨fun _=>rfl,fun _=>rfl⟩
theorem MEq.symm {x y:MV} (h:MEq x y):MEq y x:=⟨fun q=>(h.g q).symm,fun d=>(h.f d).symm⟩
theorem MEq.trans {x y z:MV} (h:MEq x y) (h2:MEq y z):MEq x z:=⟨fun q=>(h.g q).trans (h2.g q),fun d=>(h.f d).trans (h2.f d)⟩
theorem zLl {L:DbL} (h:OKD L) (q:Dig):q∈L.map Prod.fst↔getD L q≠[]:=by
 constructor
 ·exact fun hq=>(zOZ h hq).1
 ·intro hq
  exact Classical.byContradiction fun hn=>hq (zP3 hn)
theorem zPA {L L':DbL} (h:OKD L) (h':OKD L') (hg:∀q,getD L q=getD L' q):zKJ (L.map Prod.fst)=zKJ (L'.map Prod.fst):=by
 refine zPX (zKE _) (zKE _) ?_
 rw[List.perm_ext_iff_of_nodup h.1 h'.1]
 intro q
 rw[zLl h,zLl h',hg]
theorem MEq.recM {x y:MV} (h:MEq x y):Go.Proofs.YtcioeonlclpacaaGreatDoor.recM x.bl=Go.Proofs.YtcioeonlclpacaaGreatDoor.recM y.bl:=by
 funext m s
 unfold Go.Proofs.YtcioeonlclpacaaGreatDoor.recM
 rw[h.f]
theorem MEq.recs {x y:MV} (h:MEq x y) (hx:OKD x.L) (hy:OKD y.L):zO2 x=zO2 y:=by
 have hM:=h.recM
 have hT:recT x.bl=recT y.bl:=by funext t s;unfold recT;rw[hM]
 have hK:recK x=recK y:=by funext k s;unfold recK;rw[hT,h.g]
 unfold zO2
 rw[hK,zPA hx hy h.g]
theorem zNt {x y:MV} (h:MEq x y) (d:Dig):zJl d x.bl=zJl d y.bl:=by unfold zJl;rw[h.f]
theorem MEq.put {x y:MV} (h:MEq x y) (d:Dig) (s:List UInt8):MEq ⟨x.L,zJm d s x.bl⟩ ⟨y.L,zJm d s y.bl⟩:=by
 refine⟨h.g,fun e=>?_⟩
 simp only[zKg,zNt h,h.f]
theorem MEq.add {x y:MV} (h:MEq x y) (mo:Nat) (t:zaP):MEq ⟨zJj mo x.L t,x.bl⟩ ⟨zJj mo y.L t,y.bl⟩:=by
 refine⟨fun q=>?_,h.f⟩
 simp only[zKB,h.g]
theorem MEq.load {mo:Nat} {r:List UInt8} {x y x':MV} (h:MEq x y) (hl:K0 mo r x=(x',0)):∃y',K0 mo r y=(y',0)∧MEq x' y':=by
 unfold K0 at hl ⊢
 split at hl
 ·cases hl
 rename_i ht
 rw[if_neg ht]
 split at hl
 ·rename_i w s hs
  try (rw[hs];simp only)
  split at hl
  ·rename_i hw
   cases hl
   rw[if_pos hw]
   exact⟨_,rfl,h.put _ _⟩
  rename_i hw
  rw[if_neg hw]
  split at hl
  ·rename_i hw2
   rw[if_pos hw2]
   split at hl
   ·rename_i hr
    cases hl
    rw[if_pos hr]
    exact⟨_,rfl,h.add _ _⟩
   ·rename_i hr
    exact absurd (congrArg Prod.snd hl) hr
  ·cases hl
 ·cases hl
theorem MEq.loads {mo:Nat}:∀ {l:List (List UInt8)} {x y x':MV},MEq x y→j5 mo l x=(x',0)→∃y',j5 mo l y=(y',0)∧MEq x' y'
 | [],x,y,x',h,e=>by cases e;exact⟨y,rfl,h⟩
 | r::l,x,y,x',h,e=>by
  rw[j5]at e
  split at e
  ·rename_i h1
   obtain⟨y1,g1,g2⟩:=h.load (x':=(K0 mo r x).1) (by rw[←h1])
   obtain⟨y',g3,g4⟩:=g2.loads e
   refine⟨y',?_,g4⟩
   rw[j5,g1,if_pos rfl]
   exact g3
  ·rename_i h1;rw[e]at h1;exact absurd rfl h1
structure RL (mo:Nat) (x:MV) (ts:List zaP) (s:zKv) (y:MV):Prop where
 ld:j5 mo s.2 ⟨[],[]⟩=(y,0)
 L:y.L=zRd mo ts
 f:∀d,y.bl.find? (fun p=>decide (p.1=d))=if d∈s.1 then x.bl.find? (fun p=>decide (p.1=d)) else none
 is:∀d∈s.1,zJl d x.bl=true
theorem zKS {mo:Nat} {r:List UInt8} {x y:MV} (h:K0 mo r x=(y,0)):j5 mo [r] x=(y,0):=by
 rw[j5,h,if_pos rfl];rfl
theorem zQ5 {bl:BlL} {p:Dig × List UInt8} (h:p∈bl):wtB p.2≤zLL bl:=by
 have:=zPc ((List.singleton_sublist.2 h).map fun p:Dig × List UInt8=>wtB p.2)
 simpa[zLL]using this
theorem zOL (s:List UInt8):s.length≤(zJf s).length:=by
 simp only[zJf,zyI,List.length_append,List.length_cons,blobW];omega
theorem RL.recM {mo N:Nat} {x:MV} (hx:zJu mo N x) (hN:N<1000000000) {ts:List zaP} {s:zKv} {y:MV} (h:RL mo x ts s y) (m:Made):∃y',RL mo x ts (Go.Proofs.YtcioeonlclpacaaGreatDoor.recM x.bl m s) y':=by
 unfold Go.Proofs.YtcioeonlclpacaaGreatDoor.recM
 cases hf:x.bl.find? (fun p=>decide (p.1=m.sum))with
 | none=>exact⟨y,h⟩
 | some p =>
  simp only
  by_cases hm:m.sum∈s.1
  ·rw[if_pos hm];exact⟨y,h⟩
  rw[if_neg hm]
  obtain⟨h1,h2⟩:=zKz hf
  have hsm:m.sum=sha p.2:=by rw[←h2];exact hx.sh p h1
  have hlen:p.2.length<1000000000:=by
   have:=zQ5 h1
   have:=zOL p.2
   have:=hx.le
   unfold wtB at *
   omega
  refine⟨⟨y.L,zJm (sha p.2) p.2 y.bl⟩,?_,h.L,?_,?_⟩
  ·simp only
   rw[zJw h.ld]
   exact zKS (zLs hlen)
  ·intro d
   simp only[zKg,zJl,h.f,List.mem_append,List.mem_singleton]
   rw[←hsm]
   by_cases hd:d∈s.1
   ·have hi:=h.is d hd
    unfold zJl at hi
    simp[hd,hi]
   ·by_cases hdm:d=m.sum
    ·subst hdm
     rw[if_neg hd,if_neg (by simp),if_pos rfl,if_pos (.inr rfl),hf,←h2]
    ·have:¬m.sum=d:=fun e=>hdm e.symm
     simp[hd,hdm,this]
  ·intro d hd
   rcases List.mem_append.1 hd with hd|hd
   ·exact h.is d hd
   ·rw[List.mem_singleton.1 hd];simp[zJl,hf]
theorem RL.recMs {mo N:Nat} {x:MV} (hx:zJu mo N x) (hN:N<1000000000) {ts:List zaP}:∀(l:List Made) {s:zKv} {y:MV},RL mo x ts s y→∃y',RL mo x ts (l.foldl (fun s m=>Go.Proofs.YtcioeonlclpacaaGreatDoor.recM x.bl m s) s) y'
 | [],_,y,h=>⟨y,h⟩
 | m::l,_,y,h=>by
  obtain⟨y1,h1⟩:=h.recM hx hN m
  exact RL.recMs hx hN l h1
theorem RL.recT {mo N:Nat} {x:MV} (hx:zJu mo N x) (hN:N<1000000000) {ts:List zaP} {s:zKv} {y:MV} (h:RL mo x ts s y) {t:zaP} (ht:TrG t):∃y',RL mo x (ts++[t]) (Go.Proofs.YtcioeonlclpacaaGreatDoor.recT x.bl t s) y':=by
 obtain⟨y1,h1⟩:=RL.recMs hx hN t.outs h
 unfold Go.Proofs.YtcioeonlclpacaaGreatDoor.recT
 refine⟨⟨zJj mo y1.L t,y1.bl⟩,?_,?_,h1.f,h1.is⟩
 ·simp only
  rw[zJw h1.ld]
  exact zKS (zLa ht.1 ht.2)
 ·simp only
  rw[zQw,h1.L]
theorem RL.recTs {mo N:Nat} {x:MV} (hx:zJu mo N x) (hN:N<1000000000):∀(l:List zaP) {ts:List zaP} {s:zKv} {y:MV},(∀t∈l,TrG t)→RL mo x ts s y→∃y',RL mo x (ts++l) (l.foldl (fun s t=>Go.Proofs.YtcioeonlclpacaaGreatDoor.recT x.bl t s) s) y'
 | [],ts,_,y,_,h=>⟨y,by simpa using h⟩
 | t::l,ts,_,y,hl,h=>by
  obtain⟨y1,h1⟩:=h.recT hx hN (hl t (by simp))
  obtain⟨y2,h2⟩:=RL.recTs hx hN l (fun t ht=>hl t (List.mem_cons_of_mem _ ht)) h1
  exact⟨y2,by simpa using h2⟩
def zJE (l:List U1) (bl:BlL):BlL:=l.foldl (fun b f=>zJm (sha f.data) f.data b) bl
def nwB:List U1→BlL→List (List UInt8)
 | [],_=>[]
 | f::r,bl=>if zJl (sha f.data) bl then nwB r bl else zJf f.data::nwB r (zJm (sha f.data) f.data bl)
theorem zNV {d:Dig} {s:List UInt8} {bl:BlL} (h:zJl d bl=true):zJm d s bl=bl:=by
 unfold zJl at h
 unfold zJm
 cases hf:bl.find? (fun p=>decide (p.1=d))with
 | some p=>rfl
 | none=>rw[hf]at h;cases h
theorem JV.eta {j:JV} (h:j.br=false):j=⟨j.d,false⟩:=by cases j;simp only at h;subst h;rfl
theorem zKa:∀ {l:List U1} {d:DV} {bl:BlL} {recs:List (List UInt8)},zJK d.m recs→(∀f∈l,(zJf f.data).length≤1048576)→
  ((q6 l ⟨d,false⟩ bl).2.2=0∧(q6 l ⟨d,false⟩ bl).2.1=zJE l bl∧(q6 l ⟨d,false⟩ bl).1.br=false∧zJK (q6 l ⟨d,false⟩ bl).1.d.m (recs++nwB l bl)∧(d.left=-1→(q6 l ⟨d,false⟩ bl).1.d.left=-1))∨
  ((q6 l ⟨d,false⟩ bl).2.2≠0∧(q6 l ⟨d,false⟩ bl).1.br=true∧d.left≠-1∧∃p r q,nwB l bl=p++r::q∧zMG (q6 l ⟨d,false⟩ bl).1.d.m (recs++p) r)
 | [],d,bl,recs,h,_=>.inl ⟨rfl,rfl,rfl,by simpa[nwB,q6]using h,fun e=>e⟩
 | f::l,d,bl,recs,h,hs=>by
  have hs2:∀f∈l,(zJf f.data).length≤1048576:=fun f hf=>hs f (List.mem_cons_of_mem _ hf)
  by_cases hh:zJl (sha f.data) bl=true
  ·have ih:=zKa (l:=l) (bl:=bl) h hs2
   have e1:q6 (f::l) ⟨d,false⟩ bl=q6 l ⟨d,false⟩ bl:=by rw[q6,if_pos hh]
   have e2:nwB (f::l) bl=nwB l bl:=by rw[nwB,if_pos hh]
   have e3:zJE (f::l) bl=zJE l bl:=by simp only[zJE,List.foldl_cons,zNV hh]
   rw[e1,e2,e3]
   exact ih
  have e2:nwB (f::l) bl=zJf f.data::nwB l (zJm (sha f.data) f.data bl):=by rw[nwB,if_neg hh]
  have e3:zJE (f::l) bl=zJE l (zJm (sha f.data) f.data bl):=by simp only[zJE,List.foldl_cons]
  rcases zNz (r:=zJf f.data) h (hs f (by simp))with⟨a1,a2,a3,a4,a5⟩|⟨a1,a2,a3,a4⟩
  ·have e1:q6 (f::l) ⟨d,false⟩ bl=q6 l ⟨(addJ (zJf f.data) ⟨d,false⟩).1.d,false⟩ (zJm (sha f.data) f.data bl):=by
    rw[q6,if_neg hh,if_pos a1,←JV.eta a2]
   rw[e1,e2,e3]
   rcases zKa (l:=l) (bl:=zJm (sha f.data) f.data bl) a3 hs2 with⟨b1,b2,b3,b4,b5⟩|⟨b1,b2,b3,p,r,q,b4,b5⟩
   ·exact .inl ⟨b1,b2,b3,by simpa using b4,fun e=>b5 (a5 e)⟩
   ·exact .inr ⟨b1,b2,fun e=>b3 (a5 e),zJf f.data::p,r,q,by rw[b4];rfl,by simpa using b5⟩
  ·have e1:q6 (f::l) ⟨d,false⟩ bl=((addJ (zJf f.data) ⟨d,false⟩).1,bl,(addJ (zJf f.data) ⟨d,false⟩).2):=by
    rw[q6,if_neg hh,if_neg a1]
   rw[e1,e2]
   exact .inr ⟨a1,a2,a4,[],zJf f.data,_,rfl,by simpa using a3⟩
theorem zKu:∀ {l:List U1} {j:JV} {bl:BlL},j.br=true→(q6 l j bl).1=j
 | [],j,bl,_=>rfl
 | f::l,j,bl,h=>by
  rw[q6]
  split
  ·exact zKu h
  ·rw[zM1 _ h,if_neg (by simp)]
noncomputable def zLc (t:zaP) (outs:List U1) (bl:BlL):List (List UInt8):=nwB outs bl++[zJG t]
structure zOF (t:zaP) (outs:List U1):Prop where
 g:TrG t
 o:t.outs=outs.map zJF
 b:∀f∈outs,(zJf f.data).length≤1048576
 t:(zJG t).length≤1048576
theorem zL7 {k:KV} {recs:List (List UInt8)} (hb:k.j.br=false) (h:zJK k.j.d.m recs) {t:zaP} {outs:List U1} (hf:zOF t outs) :
  ((g6 t outs k).2=0∧(g6 t outs k).1.j.br=false∧zJK (g6 t outs k).1.j.d.m (recs++zLc t outs k.M.bl)∧(g6 t outs k).1.M=⟨zJj k.mo k.M.L t,zJE outs k.M.bl⟩∧(k.j.d.left=-1→(g6 t outs k).1.j.d.left=-1))∨
  ((g6 t outs k).2≠0∧(g6 t outs k).1.j.br=true∧k.j.d.left≠-1∧∃p r q,zLc t outs k.M.bl=p++r::q∧zMG (g6 t outs k).1.j.d.m (recs++p) r):=by
 obtain⟨⟨d,br⟩,mo,M⟩:=k
 simp only at hb h
 subst hb
 unfold g6
 simp only
 rw[if_neg (by rw[hf.g.2];decide),if_neg (by rw[hf.o];simp)]
 unfold zLc
 rcases zKa (l:=outs) (bl:=M.bl) h hf.b with⟨b1,b2,b3,b4,b5⟩|⟨b1,b2,b3,p,r,q,b4,b5⟩
 ·rw[if_neg (by rw[b1];decide)]
  obtain⟨j,hj⟩:∃j,j=(q6 outs ⟨d,false⟩ M.bl).1:=⟨_,rfl⟩
  rw[←hj]at b3 b4 b5 ⊢
  rw[b2,JV.eta b3]
  rcases zNz (r:=zJG t) b4 hf.t with⟨a1,a2,a3,a4,a5⟩|⟨a1,a2,a3,a4⟩
  ·rw[if_neg (by rw[a1];decide)]
   exact .inl ⟨rfl,a2,by simpa using a3,rfl,fun e=>a5 (b5 e)⟩
  ·rw[if_pos a1]
   exact .inr ⟨a1,a2,fun e=>a4 (b5 e),nwB outs M.bl,zJG t,[],by simp,a3⟩
 ·rw[if_pos b1]
  exact .inr ⟨b1,b2,b3,p,r,q++[zJG t],by rw[b4];simp,b5⟩
theorem zN4 {k:KV} (h:k.j.br=true) {t:zaP} {outs:List U1} (hf:zOF t outs):(g6 t outs k).2≠0∧(g6 t outs k).1.j=k.j:=by
 have hb:=zKu (l:=outs) (bl:=k.M.bl) h
 unfold g6
 rw[if_neg (by rw[hf.g.2];decide),if_neg (by rw[hf.o];simp)]
 split
 ·rename_i h1
  exact⟨h1,hb⟩
 ·rw[hb,zM1 _ h,if_pos (by simp)]
  exact⟨by simp,rfl⟩
theorem zLn {k:KV} {t:zaP} {outs:List U1}:(g6 t outs k).1.mo=k.mo:=by
 unfold g6
 split
 ·rfl
 split
 ·rfl
 split
 ·rfl
 split<;>rfl
theorem zKA {mo:Nat}:∀ {a b:List (List UInt8)} {x y:MV},j5 mo (a++b) x=(y,0)→∃z,j5 mo a x=(z,0)∧j5 mo b z=(y,0)
 | [],b,x,y,h=>⟨x,rfl,h⟩
 | r::a,b,x,y,h=>by
  rw[List.cons_append,j5]at h
  split at h
  ·rename_i h1
   obtain⟨z,h2,h3⟩:=zKA h
   exact⟨z,by rw[j5,if_pos h1];exact h2,h3⟩
  ·rename_i h1;rw[h]at h1;exact absurd rfl h1
theorem zKN:∀ {l:List U1} {bl:BlL} {r:List UInt8},r∈nwB l bl→∃f∈l,r=zJf f.data
 | [],_,_,h=>by cases h
 | f::l,bl,r,h=>by
  rw[nwB]at h
  split at h
  ·obtain⟨g,h1,h2⟩:=zKN h
   exact⟨g,List.mem_cons_of_mem _ h1,h2⟩
  ·rcases List.mem_cons.1 h with rfl|h
   ·exact⟨f,by simp,rfl⟩
   ·obtain⟨g,h1,h2⟩:=zKN h
    exact⟨g,List.mem_cons_of_mem _ h1,h2⟩
theorem zMm {s:List UInt8} (h:(zJf s).length≤1048576):s.length<1000000000:=by have:=zOL s;omega
theorem zKV {mo:Nat}:∀ {l:List U1} {x:MV},(∀f∈l,(zJf f.data).length≤1048576)→j5 mo (nwB l x.bl) x=(⟨x.L,zJE l x.bl⟩,0)
 | [],x,_=>rfl
 | f::l,x,h=>by
  have h2:∀f∈l,(zJf f.data).length≤1048576:=fun f hf=>h f (List.mem_cons_of_mem _ hf)
  rw[nwB]
  split
  ·rename_i hh
   have e3:zJE (f::l) x.bl=zJE l x.bl:=by simp only[zJE,List.foldl_cons,zNV hh]
   rw[e3]
   exact zKV h2
  ·rw[j5,zLs (zMm (h f (by simp))),if_pos rfl]
   exact zKV (x:=⟨x.L,zJm (sha f.data) f.data x.bl⟩) h2
theorem zM5 {mo:Nat} {t:zaP} {outs:List U1} (hf:zOF t outs) (x:MV):j5 mo (zLc t outs x.bl) x=(⟨zJj mo x.L t,zJE outs x.bl⟩,0):=by
 unfold zLc
 rw[zJw (zKV hf.b)]
 exact zKS (zLa hf.g.1 hf.g.2)
theorem MEq.nwB {x y:MV} (h:MEq x y):∀(l:List U1),Go.Proofs.YtcioeonlclpacaaGreatDoor.nwB l x.bl=Go.Proofs.YtcioeonlclpacaaGreatDoor.nwB l y.bl:=by
 intro l
 induction l generalizing x y with
 | nil=>rfl
 | cons f l ih =>
  simp only[Go.Proofs.YtcioeonlclpacaaGreatDoor.nwB,zNt h]
  split
  ·exact ih h
  ·rw[ih (h.put (sha f.data) f.data)]
theorem zN0:∀ {l:List U1} {bl:BlL} {d:Dig},zJl d bl=true→zJl d (zJE l bl)=true
 | [],_,_,h=>h
 | f::l,bl,d,h=>by
  refine zN0 (l:=l) ?_
  have h2:=h
  unfold zJl at h ⊢
  rw[zKg,if_pos h2]
  exact h
theorem zS0 (s:List UInt8) (bl:BlL) (d:Dig):zJl d (zJm d s bl)=true:=by
 unfold zJl
 rw[zKg]
 split
 ·rename_i h;exact h
 ·simp
theorem zMY:∀ {l:List U1} {bl:BlL} {f:U1},f∈l→zJl (sha f.data) (zJE l bl)=true
 | g::l,bl,f,h=>by
  rcases List.mem_cons.1 h with rfl|h
  ·exact zN0 (l:=l) (zS0 _ _ _)
  ·exact zMY (l:=l) h
theorem zL3 {t:zaP} {outs:List U1} (hf:zOF t outs) {bl:BlL}:zKY (zLc t outs bl):=by
 intro r hr
 rcases List.mem_append.1 hr with hr|hr
 ·obtain⟨f,h1,rfl⟩:=zKN hr
  exact hf.b f h1
 ·rw[List.mem_singleton.1 hr];exact hf.t
theorem zN1 {a b:List (List UInt8)} (ha:zKY a) (hb:zKY b):zKY (a++b):=fun r hr=>by
 rcases List.mem_append.1 hr with hr|hr
 ·exact ha r hr
 ·exact hb r hr
theorem zOK {t:zaP} {outs:List U1} {bl:BlL} {p q:List (List UInt8)} {r:List UInt8} (h:zLc t outs bl=p++r::q) :
  (∀y∈p,∃f∈outs,y=zJf f.data)∧((∃f∈outs,r=zJf f.data)∨(r=zJG t∧p=nwB outs bl)):=by
 unfold zLc at h
 rcases List.eq_nil_or_concat q with rfl|⟨q',z,rfl⟩
 ·obtain⟨h1,h2⟩:=List.append_inj' h (by simp)
  simp only[List.cons.injEq,and_true]at h2
  exact⟨fun y hy=>zKN (h1▸hy),.inr ⟨h2.symm,h1.symm⟩⟩
 ·have h':nwB outs bl++[zJG t]=(p++r::q')++[z]:=by rw[h];simp
  obtain⟨h1,h2⟩:=List.append_inj' h' (by simp)
  refine⟨fun y hy=>zKN (by rw[h1];simp[hy]),.inl (zKN (by rw[h1];simp))⟩
abbrev ItV:=zaP × List U1
structure Sur (xs:List ItV) (c:Nat→Bool) (M:MV):Prop where
 yes:∀i (h:i<xs.length),c i=true→getD M.L xs[i].1.key=[xs[i].1]∧∀f∈xs[i].2,zJl (sha f.data) M.bl=true
 no:∀i (h:i<xs.length),c i=false→getD M.L xs[i].1.key=[]
 keys:∀q,getD M.L q≠[]→∃i,∃h:i<xs.length,q=xs[i].1.key
 met:∀d p,M.bl.find? (fun p=>decide (p.1=d))=some p→p.1=sha p.2∧∃x∈xs,∃f∈x.2,f.data=p.2
theorem Sur.eq {xs:List ItV} {c:Nat→Bool} {M M':MV} (h:Sur xs c M) (e:MEq M M'):Sur xs c M':=by
 refine⟨fun i hi hc=>?_,fun i hi hc=>?_,fun q hq=>?_,fun d p hp=>?_⟩
 ·rw[←e.g]
  obtain⟨h1,h2⟩:=h.yes i hi hc
  exact⟨h1,fun f hf=>by rw[←zNt e];exact h2 f hf⟩
 ·rw[←e.g];exact h.no i hi hc
 ·rw[←e.g]at hq;exact h.keys q hq
 ·rw[←e.f]at hp;exact h.met d p hp
theorem zQ3 {d e:Dig} {s:List UInt8} {bl:BlL} (h:zJl e bl=true):zJl e (zJm d s bl)=true:=by
 have h2:=h
 unfold zJl at h ⊢
 rw[zKg,if_pos h2];exact h
theorem Sur.put {xs:List ItV} {c:Nat→Bool} {M:MV} (h:Sur xs c M) {x:ItV} (hx:x∈xs) {f:U1} (hf:f∈x.2):Sur xs c ⟨M.L,zJm (sha f.data) f.data M.bl⟩:=by
 refine⟨fun i hi hc=>?_,h.no,h.keys,fun d p hp=>?_⟩
 ·obtain⟨h1,h2⟩:=h.yes i hi hc
  exact⟨h1,fun g hg=>zQ3 (h2 g hg)⟩
 ·simp only[zKg]at hp
  split at hp
  ·exact h.met d p hp
  ·split at hp
   ·cases hp;exact⟨rfl,x,hx,f,hf,rfl⟩
   ·cases hp
theorem Sur.puts {xs:List ItV} {c:Nat→Bool} {x:ItV} (hx:x∈xs):∀ {l:List U1} {M:MV},Sur xs c M→(∀f∈l,f∈x.2)→Sur xs c ⟨M.L,zJE l M.bl⟩
 | [],M,h,_=>h
 | f::l,M,h,hl=>by
  exact Sur.puts hx (l:=l) (M:=⟨M.L,zJm (sha f.data) f.data M.bl⟩) (h.put hx (hl f (by simp))) fun g hg=>hl g (List.mem_cons_of_mem _ hg)
theorem zSQ (t:zaP) (ts:List zaP):zJr 1 t ts=[t]:=by simp[zJr]
theorem Sur.add {xs:List ItV} {c:Nat→Bool} {M:MV} (h:Sur xs c M) (hk:(xs.map fun x=>x.1.key).Nodup) {i:Nat} (hi:i<xs.length) (hc:zCW xs[i].1=0) (hb:∀f∈xs[i].2,zJl (sha f.data) M.bl=true) :
  Sur xs (fun j=>decide (j=i)||c j) ⟨zJj 1 M.L xs[i].1,M.bl⟩:=by
 have hne:∀j (hj:j<xs.length),j≠i→xs[j].1.key≠xs[i].1.key:=by
  intro j hj hji e
  have h1:(xs.map fun x=>x.1.key)[j]'(by simpa using hj)=(xs.map fun x=>x.1.key)[i]'(by simpa using hi):=by simpa using e
  exact hji ((List.getElem_inj hk).1 h1)
 have hgi:∀q,getD (zJj 1 M.L xs[i].1) q=if q=xs[i].1.key then [xs[i].1] else getD M.L q:=by
  intro q
  rw[zKB,zMN]
  by_cases hq:q=xs[i].1.key
  ·rw[if_pos ⟨hq.symm,hc⟩,if_pos hq,zSQ]
  ·rw[if_neg (fun e=>hq e.1.symm),if_neg hq]
 refine⟨fun j hj hcj=>?_,fun j hj hcj=>?_,fun q hq=>?_,h.met⟩
 ·simp only[hgi]
  by_cases hji:j=i
  ·subst hji;exact⟨by simp,hb⟩
  ·rw[if_neg (hne j hj hji)]
   simp only[hji,decide_false,Bool.false_or]at hcj
   exact h.yes j hj hcj
 ·simp only[Bool.or_eq_false_iff,decide_eq_false_iff_not]at hcj
  simp only[hgi]
  rw[if_neg (hne j hj hcj.1)]
  exact h.no j hj hcj.2
 ·simp only[hgi]at hq
  split at hq
  ·rename_i e;exact⟨i,hi,e⟩
  ·exact h.keys q hq
theorem Sur.keep {xs:List ItV} {c:Nat→Bool} {M:MV} (h:Sur xs c M) (hk:(xs.map fun x=>x.1.key).Nodup) {i:Nat} (hi:i<xs.length) (hc:zCW xs[i].1=0) :
  Sur xs (fun j=>decide (j=i)||c j) ⟨zJj 1 M.L xs[i].1,zJE xs[i].2 M.bl⟩:=by
 have h1:=Sur.puts (List.getElem_mem hi) h (l:=xs[i].2) fun f hf=>hf
 exact h1.add hk hi hc fun f hf=>zMY hf
theorem Sur.loadB {xs:List ItV} {c:Nat→Bool} {x:ItV} (hx:x∈xs) (hb:∀f∈x.2,(zJf f.data).length≤1048576):∀ {l:List (List UInt8)} {M M':MV},Sur xs c M→(∀r∈l,∃f∈x.2,r=zJf f.data)→j5 1 l M=(M',0)→Sur xs c M'
 | [],M,M',h,_,e=>by cases e;exact h
 | r::l,M,M',h,hl,e=>by
  obtain⟨f,hf,rfl⟩:=hl r (by simp)
  rw[j5,zLs (zMm (hb f hf)),if_pos rfl]at e
  exact Sur.loadB hx hb (h.put hx hf) (fun r hr=>hl r (List.mem_cons_of_mem _ hr)) e
structure zPF (xs:List ItV):Prop where
 nd:(xs.map fun x=>x.1.key).Nodup
 fit:∀x∈xs,zOF x.1 x.2
def ltB (n:Nat) (j:Nat):Bool:=decide (j<n)
inductive S1 (xs:List ItV):Nat→Nat→Bool→KV→Prop
 | go (i:Nat) (k:KV) (recs:List (List UInt8)) (M:MV) (hm:k.mo=1) (hb:k.j.br=false) (hf:zJK k.j.d.m recs) (hs:zKY recs) (hl:j5 1 recs ⟨[],[]⟩=(M,0)) (he:MEq M k.M) (hS:Sur xs (ltB i) k.M):S1 xs i i false k
 | broken (i n:Nat) (k:KV) (recs:List (List UInt8)) (r:List UInt8) (M M':MV) (c:Nat→Bool) (hn:n<i) (hm:k.mo=1) (hb:k.j.br=true) (hf:zMG k.j.d.m recs r) (hs:zKY recs) (hr:r.length≤1048576)
   (hl:j5 1 recs ⟨[],[]⟩=(M,0)) (hl':j5 1 (recs++[r]) ⟨[],[]⟩=(M',0)) (hS:Sur xs (ltB n) M) (hS':Sur xs c M') (hc:c=ltB n∨c=ltB (n+1)):S1 xs i n true k
theorem zQN (i:Nat):(fun j=>decide (j=i)||ltB i j)=ltB (i+1):=by
 funext j
 by_cases h:j=i
 ·simp[ltB,h]
 ·have:(j<i+1)=(j<i):=propext ⟨fun _=>by omega,fun _=>by omega⟩
  simp only[ltB,h,decide_false,Bool.false_or,this]
theorem zRj {xs:List ItV} (hx:zPF xs) {i n:Nat} {b:Bool} {k:KV} (h:S1 xs i n b k) (hi:i<xs.length) :
  (b=false∧(g6 xs[i].1 xs[i].2 k).2=0∧S1 xs (i+1) (i+1) false (g6 xs[i].1 xs[i].2 k).1)∨((g6 xs[i].1 xs[i].2 k).2≠0∧S1 xs (i+1) n true (g6 xs[i].1 xs[i].2 k).1):=by
 have hfit:=hx.fit _ (List.getElem_mem hi)
 cases h with
 | broken _ k recs r M M' c hn hm hb hf hs hr hl hl' hS hS' hc =>
  obtain⟨a1,a2⟩:=zN4 hb hfit
  exact .inr ⟨a1,.broken _ _ _ recs r M M' c (by omega) (by rw[zLn];exact hm) (by rw[a2];exact hb) (by rw[a2];exact hf) hs hr hl hl' hS hS' hc⟩
 | go k recs M hm hb hf hs hl he hS =>
  have hnw:=zM5 (mo:=1) hfit k.M
  have hSk:=hS.keep hx.nd hi hfit.g.2
  rw[zQN]at hSk
  rcases zL7 hb hf hfit with⟨a1,a2,a3,a4,_⟩|⟨a1,a2,a3,p,r,q,a4,a5⟩
  ·rw[hm]at a4
   obtain⟨M2,g1,g2⟩:=he.symm.loads hnw
   refine .inl ⟨rfl,a1,.go _ _ _ M2 (by rw[zLn];exact hm) a2 a3 (zN1 hs (zL3 hfit)) ?_ ?_ ?_⟩
   ·rw[zJw hl];exact g1
   ·rw[a4];exact g2.symm
   ·rw[a4];exact hSk
  ·obtain⟨n1,n2⟩:=zOK a4
   have hnw2:=hnw
   rw[a4,show p++r::q=(p++[r])++q by simp]at hnw2
   obtain⟨z2,l1,_⟩:=zKA hnw2
   obtain⟨z1,l2,l3⟩:=zKA l1
   obtain⟨M1,g1,g2⟩:=he.symm.loads l2
   obtain⟨M2,g3,g4⟩:=he.symm.loads l1
   have hsm:=zL3 hfit (bl:=k.M.bl)
   rw[a4]at hsm
   have hz1:=Sur.loadB (List.getElem_mem hi) hfit.b hS n1 l2
   have hz2:∃c,Sur xs c z2∧(c=ltB i∨c=ltB (i+1)):=by
    rcases n2 with⟨f,hf1,rfl⟩|⟨rfl,rfl⟩
    ·exact⟨_,Sur.loadB (List.getElem_mem hi) hfit.b hz1 (fun y hy=>⟨f,hf1,List.mem_singleton.1 hy⟩) l3,.inl rfl⟩
    ·have:=zKV (mo:=1) (l:=xs[i].2) (x:=k.M) hfit.b
     rw[l2]at this
     cases this
     have ht:=zKS (mo:=1) (zLa (x:=⟨k.M.L,zJE xs[i].2 k.M.bl⟩) hfit.g.1 hfit.g.2)
     rw[l3]at ht
     cases ht
     exact⟨_,hSk,.inr rfl⟩
   obtain⟨c,hc1,hc2⟩:=hz2
   refine .inr ⟨a1,.broken _ _ _ (recs++p) r M1 M2 c (by omega) (by rw[zLn];exact hm) a2 a5 (zN1 hs fun y hy=>hsm y (by simp[hy])) (hsm r (by simp)) ?_ ?_ (hz1.eq g2) (hc1.eq g4) hc2⟩
   ·rw[zJw hl];exact g1
   ·rw[List.append_assoc,zJw hl];exact g3
structure S2 (xs:List ItV) (i n:Nat) (c:Nat→Bool) (k:KV):Prop where
 mo:k.mo=1
 br:k.j.br=false
 left:k.j.d.left=-1
 file:∃recs,zJK k.j.d.m recs
 S:Sur xs c k.M
 lo:∀j,j<i→c j=true
 hi:∀j,i≤j→(j<n→c j=true)∧(n<j→c j=false)
theorem zMv {d:DV} {l:List (List UInt8)} {M:MV} (h:Op d l (openJ d)) (hl:j5 1 l ⟨[],[]⟩=(M,0)):zJv 1 d=((openJ d).1,some ⟨⟨(openJ d).1,false⟩,1,M⟩,0):=by
 have e1:(openJ d).2.1=0:=by rw[h.e]
 have e2:(openJ d).2.2=l:=by rw[h.e]
 unfold zJv
 rw[if_neg (by omega),if_neg (by rw[e1];decide),e2]
 have e3:(Int.toNat 1)=1:=rfl
 rw[e3,hl,if_neg (by simp)]
theorem zSa {xs:List ItV} {i n:Nat} {b:Bool} {k:KV} (h:S1 xs i n b k) (ps:List Int) :
  ∃d' k' c,zJv 1 (zJh ps k.j.d)=(d',some k',0)∧S2 xs 0 n c k':=by
 cases h with
 | go k recs M hm hb hf hs hl he hS =>
  have ho:=zKt hs hf ps
  refine⟨_,_,_,zMv ho hl,rfl,rfl,ho.left,⟨_,ho.m⟩,hS.eq he.symm,by omega,fun j _=>?_⟩
  simp only[ltB]
  exact⟨fun h=>by simpa using h,fun h=>by simp;omega⟩
 | broken _ k recs r M M' c hn hm hb hf hs hr hl hl' hS hS' hc =>
  obtain⟨l',h1,ho⟩:=zOB hs hr hf ps
  rcases h1 with rfl|rfl
  ·refine⟨_,_,_,zMv ho hl,rfl,rfl,ho.left,⟨_,ho.m⟩,hS,by omega,fun j _=>?_⟩
   simp only[ltB]
   exact⟨fun h=>by simpa using h,fun h=>by simp;omega⟩
  ·refine⟨_,_,_,zMv ho hl',rfl,rfl,ho.left,⟨_,ho.m⟩,hS',by omega,fun j _=>?_⟩
   rcases hc with rfl|rfl<;>simp only[ltB]
   ·exact⟨fun h=>by simpa using h,fun h=>by simp;omega⟩
   ·exact⟨fun h=>by simp;omega,fun h=>by simp;omega⟩
theorem zSy {xs:List ItV} {i n:Nat} {c:Nat→Bool} {k:KV} (h:S2 xs i n c k) (hi:i<xs.length) :
  (i<n→getD k.M.L xs[i].1.key=[xs[i].1])∧(n<i→getD k.M.L xs[i].1.key=[])∧
  ((getD k.M.L xs[i].1.key=[xs[i].1]∧∀f∈xs[i].2,zJl (sha f.data) k.M.bl=true)∨getD k.M.L xs[i].1.key=[]):=by
 refine⟨fun hl=>(h.S.yes i hi ((h.hi i (Nat.le_refl _)).1 hl)).1,fun hl=>h.S.no i hi ((h.hi i (Nat.le_refl _)).2 hl),?_⟩
 cases hc:c i
 ·exact .inr (h.S.no i hi hc)
 ·exact .inl (h.S.yes i hi hc)
theorem zRF {xs:List ItV} (hx:zPF xs) {i n:Nat} {c:Nat→Bool} {k:KV} (h:S2 xs i n c k) (hi:i<xs.length) :
  (g6 xs[i].1 xs[i].2 k).2=0∧S2 xs (i+1) n (fun j=>decide (j=i)||c j) (g6 xs[i].1 xs[i].2 k).1:=by
 have hfit:=hx.fit _ (List.getElem_mem hi)
 obtain⟨recs,hf⟩:=h.file
 rcases zL7 h.br hf hfit with⟨a1,a2,a3,a4,a5⟩|⟨_,_,a3,_⟩
 ·refine⟨a1,by rw[zLn];exact h.mo,a2,a5 h.left,⟨_,a3⟩,?_,?_,?_⟩
  ·rw[a4,h.mo];exact h.S.keep hx.nd hi hfit.g.2
  ·intro j hj
   by_cases hji:j=i
   ·simp[hji]
   ·simp[h.lo j (by omega)]
  ·intro j hj
   have hji:¬j=i:=by omega
   simp only[hji,decide_false,Bool.false_or]
   exact h.hi j (by omega)
 ·exact absurd h.left a3
def zJX (l:List (List UInt8)):Prop:=∀a∈l,∀b∈l,sha a=sha b→a=b
theorem zQ1 {xs:List ItV} {c:Nat→Bool} {M:MV} (h:Sur xs c M) (ha:zJX (xs.flatMap fun x=>x.2.map fun f=>f.data)) {x:ItV} (hx:x∈xs) {f:U1} (hf:f∈x.2) (hh:zJl (sha f.data) M.bl=true) :
  M.bl.find? (fun p=>decide (p.1=sha f.data))=some (sha f.data,f.data):=by
 unfold zJl at hh
 cases hp:M.bl.find? (fun p=>decide (p.1=sha f.data))with
 | none=>rw[hp]at hh;cases hh
 | some p =>
  obtain⟨h1,y,hy,g,hg,h2⟩:=h.met _ _ hp
  have h3:=(zKz hp).2
  have:p.2=f.data:=by
   refine ha _ ?_ _ ?_ (by rw[←h1,h3])
   ·exact List.mem_flatMap.2 ⟨y,hy,List.mem_map.2 ⟨g,hg,h2⟩⟩
   ·exact List.mem_flatMap.2 ⟨x,hx,List.mem_map.2 ⟨f,hf,rfl⟩⟩
  rw[←h3,←this]
theorem zNI {α:Type} {f:α→Nat}:∀ {l:List α},(∀x∈l,f x=1)→(l.map f).sum=l.length
 | [],_=>rfl
 | x::l,h=>by
  rw[List.map_cons,List.sum_cons,h x (by simp),zNI (fun y hy=>h y (List.mem_cons_of_mem _ hy)),List.length_cons];omega
theorem zPE {xs:List ItV} {c:Nat→Bool} {M:MV} (hx:zPF xs) (ho:OKD M.L) (h:Sur xs c M) (hc:∀i,i<xs.length→c i=true) :
  ((zKJ (M.L.map Prod.fst)).map fun k=>(getD M.L k).length).sum=xs.length:=by
 have hp:(zKJ (M.L.map Prod.fst)).Perm (xs.map fun x=>x.1.key):=by
  rw[List.perm_ext_iff_of_nodup (zLR ho.1) hx.nd]
  intro q
  rw[zNX,zLl ho]
  constructor
  ·intro hq
   obtain⟨i,hi,rfl⟩:=h.keys q hq
   exact List.mem_map.2 ⟨_,List.getElem_mem hi,rfl⟩
  ·intro hq
   obtain⟨x,hxm,rfl⟩:=List.mem_map.1 hq
   obtain⟨i,hi,rfl⟩:=List.getElem_of_mem hxm
   rw[(h.yes i hi (hc i hi)).1];simp
 rw[zQL (hp.map fun k=>(getD M.L k).length),List.map_map,zNI]
 intro x hxm
 obtain⟨i,hi,rfl⟩:=List.getElem_of_mem hxm
 simp[(h.yes i hi (hc i hi)).1]
end Go.Proofs.YtcioeonlclpacaaGreatDoor
end
