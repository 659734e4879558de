/- A trace's bytes tell the trace. No condition beyond each theorem's own. -/
import Derived.Test.YtcioeonlclpacaaGreatDoorP20ToKJ0
import Derived.Test.YtcioeonlclpacaaGreatDoorVCaToP14
import Derived.Test.YtcioeonlclpacaaGreatDoorQ0ToP0
import Derived.Test.YtcioeonlclpacaaGreatDoorB0
import Derived.Test.YtcioeonlclpacaaGreatDoorD4ToD6
import Derived.Test.YtcioeonlclpacaaGreatDoorE2ToE5
set_option linter.unusedSimpArgs false
set_option linter.unusedVariables false
set_option linter.unusedSectionVars false
section
set_option maxRecDepth 100000
namespace Go.Proofs.YtcioeonlclpacaaGreatDoor
open Go Go.Ab
open Classical
variable [Sel] [SelPow]
def okS (r:XF):Prop:=r.sum.length=32∧(r.is=false→r.sum=zc4)
theorem zEn (l:List XF):(l.flatMap zD8).length=2*l.length:=by
 induction l with
 | nil=>rfl
 | cons r l ih=>rw[List.flatMap_cons,List.length_append,ih];simp[zD8];omega
theorem zDh:∀ {l:List XF} {met:List (List UInt8)},zD1 met l=0→∀r∈l,yV r.path=true∧(r.is=false→r.sum=zc4)
 | [],_,_,r,hr=>by cases hr
 | x::l,met,h,r,hr=>by
  unfold zD1 at h
  split at h
  ·cases h
  ·split at h
   ·cases h
   ·split at h
    ·cases h
    ·rename_i h1 h2 h3
     rcases List.mem_cons.1 hr with rfl|hr
     ·exact⟨by simpa using h1,fun hi=>Classical.byContradiction fun hn=>h3 ⟨hi,hn⟩⟩
     ·exact zDh h r hr
theorem zDr:∀ {l:List Made} {o:Option (List UInt8)},zD4 o l=0→∀m∈l,zuT m.path zwB=true
 | [],_,_,m,hm=>by cases hm
 | x::l,none,h,m,hm=>by
  unfold zD4 at h
  split at h
  ·cases h
  ·rename_i h1
   rcases List.mem_cons.1 hm with rfl|hm
   ·simpa using h1
   ·exact zDr h m hm
 | x::l,some q,h,m,hm=>by
  unfold zD4 at h
  split at h
  ·cases h
  ·split at h
   ·cases h
   ·split at h
    ·cases h
    ·rename_i h1 _ _
     rcases List.mem_cons.1 hm with rfl|hm
     ·simpa using h1
     ·exact zDr h m hm
theorem zDx (c:UInt8):∀l,l.length+1=((qT c l).map fun x=>x.length+1).sum
 | []=>rfl
 | b::l=>by
  have ih:=zDx c l
  unfold qT
  split
  ·simp only[List.map_cons,List.sum_cons,List.length_cons,List.length_nil];omega
  ·split
   ·rename_i h;rw[h]at ih;simp at ih
   ·rename_i x r h
    rw[h]at ih
    simp only[List.map_cons,List.sum_cons,List.length_cons]at ih ⊢
    omega
theorem zEL:∀l:List (List UInt8),(∀x∈l,x.length≤64)→(l.map fun x=>x.length+1).sum≤65*l.length
 | [],_=>by simp
 | x::l,h=>by
  have:=zEL l fun y hy=>h y (by simp[hy])
  have:=h x (by simp)
  simp only[List.map_cons,List.sum_cons,List.length_cons];omega
theorem zEm {l:List UInt8} (h:yV l=true):l.length≤1040:=by
 simp only[yV,Bool.and_eq_true,decide_eq_true_eq,List.all_eq_true]at h
 have h1:=zDx 47 l
 have h2:=zEL (qT 47 l) fun x hx=>by
  have:=h.2 x hx
  simp only[Q0,Bool.and_eq_true,decide_eq_true_eq]at this
  exact this.1.2.1
 omega
theorem zDw (u:Nat):(Lib.decDigits u).length≤u+1:=by
 induction u using Nat.strongRecOn with
 | ind u ih =>
  rw[Lib.decDigits]
  split
  ·simp
  ·have:=ih (u / 10) (by omega)
   simp;omega
theorem zyW:∀ {l:List (List UInt8)} {n:Nat},(∀x∈l,x.length≤n)→(WI l).length≤(2*n+2)*l.length
 | [],_,_=>by simp[WI]
 | s::l,n,h=>by
  have ih:=zyW (l:=l) fun y hy=>h y (by simp[hy])
  have h1:=h s (by simp)
  have h2:=zDw s.length
  rw[zyI,zyP]
  simp only[List.length_append,List.length_cons,Nat.mul_add]
  omega
theorem zEl (l:List Made):(l.flatMap zDa).length=2*l.length:=by
 induction l with
 | nil=>rfl
 | cons r l ih=>rw[List.flatMap_cons,List.length_append,ih];simp[zDa];omega
theorem zDC {t:zaP} (h:zCW t=0):zD1 [] t.reads=0∧zD4 none t.outs=0:=by
 unfold zCW at h
 split at h
 ·cases h
 ·split at h
  ·rename_i h1;exact(h1 h).elim
  ·rename_i h1;exact⟨by simpa using h1,h⟩
theorem zL6 {t:zaP} (hd:TrD t) (h:zCW t=0):(WI (zCY t)).length≤6300000:=by
 obtain⟨h1,h2⟩:=zDf h
 obtain⟨h3,h4⟩:=zDC h
 obtain⟨d1,d2,d3⟩:=hd
 have:=zyW (l:=zCY t) (n:=1040) (by
  intro x hx
  simp only[zCY,List.mem_append,List.mem_cons,List.mem_flatMap,List.not_mem_nil,or_false]at hx
  rcases hx with((rfl|rfl)|⟨r,hr,hx⟩)|⟨m,hm,hx⟩
  ·omega
  ·have:=zDw t.reads.length
   rw[zyP];omega
  ·have:=zEm (zDh h3 r hr).1
   simp only[zD8,List.mem_cons,List.not_mem_nil,or_false]at hx
   rcases hx with rfl|rfl
   ·exact this
   ·split
    ·have:=d2 r hr;omega
    ·simp
  ·have hu:=zDr h4 m hm
   simp only[zuT,Bool.and_eq_true]at hu
   have:=zEm hu.1
   simp only[zDa,List.mem_cons,List.not_mem_nil,or_false]at hx
   rcases hx with rfl|rfl
   ·exact this
   ·have:=d3 m hm;omega)
 have hl:(zCY t).length≤3002:=by
  simp only[zCY,List.length_append,zEn,zEl,List.length_cons,List.length_nil];omega
 have:(2*1040+2)*(zCY t).length≤(2*1040+2)*3002:=Nat.mul_le_mul_left _ hl
 omega
theorem zMz {t:zaP} (hd:TrD t) (h:zCW t=0):(WI (zCY t)).length≤10000000000:=Nat.le_trans (zL6 hd h) (by omega)
theorem zEv {t:zaP} (hd:TrD t) (h:zCW t=0):∀r∈t.reads,okS r:=fun r hr=>⟨hd.2.1 r hr,(zDh (zDC h).1 r hr).2⟩
end Go.Proofs.YtcioeonlclpacaaGreatDoor
end
section
set_option maxRecDepth 100000
namespace Go.Proofs.YtcioeonlclpacaaGreatDoor
open Go Go.Ab
open Classical
variable [Sel]
end Go.Proofs.YtcioeonlclpacaaGreatDoor
end
section
set_option maxRecDepth 100000
namespace Go.Proofs.YtcioeonlclpacaaGreatDoor
open Go Go.Ab
open Classical
variable [Sel]
end Go.Proofs.YtcioeonlclpacaaGreatDoor
end
section
set_option maxRecDepth 100000
namespace Go.Proofs.YtcioeonlclpacaaGreatDoor
open Go Go.Ab
open Classical
variable [Sel]
@[simp] theorem znI:qZ Tryz.prog 27=true:=by kernel_rfl
@[simp] theorem zrX:z8 Tryz.prog (.func 27)=false:=q9 znI
theorem zVT (l:List zaP) (k:Nat) (h:k<l.length):(l.map qK)[k]?=some (qK l[k]):=KB qK l k h
set_option maxHeartbeats 4000000 in
theorem zVF (a b:List zaP) (ha:∀x∈a,zG2 x) (hb:∀x∈b,zG2 x) (hla:a.length≤9223372036854775807) (hlb:b.length≤9223372036854775807) :
  PC Tryz.prog 27 [.av (.slice 49) (qH a),.av (.slice 49) (qH b)] (.av .bool (.b (decide (a=b)))):=by
 refine zow Tryz.func27 cf0 fun imm0 w0=>?_
 by_cases hab:a.length=b.length
 rotate_left
 ·have h1:¬(a.length:Int)=b.length:=by omega
  have h2:¬a=b:=fun e=>hab (by rw[e])
  (simp (maxSteps:=2000000) (disch:=first|omega|assumption) [zz,-List.reduceReplicate,h1,qH,Tryz.f27,h2])
 have h1:(a.length:Int)=b.length:=by omega
 (simp (maxSteps:=2000000) (disch:=first|omega|assumption) [zz,-List.reduceReplicate,h1,qH])
 refine AT.loop' (α:=Nat) (fun k=>St.of [(0,.av (.slice 49) (qH a)),(1,.av (.slice 49) (qH b)),(5,.av (.int .i64) (.i .i64 k))] [] (fun _=>0) [])
  (fun k=>k≤b.length∧∀i,i<k→∀(h1:i<a.length) (h2:i<b.length),a[i]=b[i]) (fun k=>b.length-k) 0 ?_ ?_ ?_
 ·apply Le.of<;>simp[qU,qG,qH]<;>try omega
 ·exact⟨by omega,fun i h=>by omega⟩
 rintro k ⟨hk,hall⟩ KL hN hE
 refine qM (cf:=cf0) laid mixed _ _ _ (by kernel_rfl) ?_
 by_cases hlt:k<b.length
 ·have hlt':(k:Int)<b.length:=by omega
  have hga:=zVT a k (by omega)
  have hgb:=zVT b k hlt
  have hlta:(k:Int)<a.length:=by omega
  have hs:=zQ6 a[k] b[k] (ha _ (List.getElem_mem _)) (hb _ (List.getElem_mem _))
  (simp (maxSteps:=2000000) (disch:=first|omega|assumption) [zz,-List.reduceReplicate,hlt',hlta,hga,hgb,qH])
  (repeat with_reducible refine om ?_)
  refine jC hs rfl rfl (by simp) (by simp[qS,TV.er]) ?_
  by_cases hc:zDY a[k] b[k]=true
  ·(simp (maxSteps:=2000000) (disch:=first|omega|assumption) [zz,-List.reduceReplicate,hc])
   (repeat with_reducible refine om ?_)
   refine hN _ (k+1) ?_ ⟨by omega,fun i hi h1 h2=>?_⟩ (by omega)
   ·apply Le.of<;>simp[qU,qG,qH]<;>try omega
   ·rcases Nat.lt_or_ge i k with h|h
    ·exact hall i h h1 h2
    ·have:i=k:=by omega
     subst this;exact zFc.1 hc
  ·have hne:¬a=b:=fun e=>hc (zFc.2 (by subst e;rfl))
   (simp (maxSteps:=2000000) (disch:=first|omega|assumption) [zz,-List.reduceReplicate,hc])
   (repeat with_reducible refine om ?_)
   refine hE _ _ (by simp) ?_
   (simp (maxSteps:=2000000) (disch:=first|omega|assumption) [zz,-List.reduceReplicate,Tryz.f27,hne])
 ·have hlt':¬(k:Int)<b.length:=by omega
  have hlta:¬(k:Int)<a.length:=by omega
  (simp (maxSteps:=2000000) (disch:=first|omega|assumption) [zz,-List.reduceReplicate,hlt',hlta,qH])
  refine hE _ _ (by simp) ?_
  have:a=b:=C0 hab fun i h1 h2=>hall i (by omega) h1 h2
  (simp (maxSteps:=2000000) (disch:=first|omega|assumption) [zz,-List.reduceReplicate,Tryz.f27,this])
theorem zQ8 (x:zaP) (ts:List zaP):kp x ts=ts.filter (fun y=>decide (y≠x)):=by
 unfold kp
 congr 1
 funext y
 by_cases h:y=x
 ·subst h
  have:zDY y y=true:=zFc.2 rfl
  simp[this]
 ·have:zDY y x=false:=by
   cases hs:zDY y x
   ·rfl
   ·exact absurd (zFc.1 hs) h
  simp[this,h]
theorem ziY (k k':Dig) (v:List zaP):∀L:DbL,getD (zJA k v L) k'=if k'=k then v else getD L k'
 | []=>by
  by_cases h:k'=k
  ·simp[zJA,getD,h]
  ·simp[zJA,getD,h,Ne.symm h]
 | (q,u)::r=>by
  have ih:=ziY k k' v r
  by_cases hq:q=k
  ·subst hq
   by_cases h:k'=q
   ·simp[zJA,getD,h]
   ·have h':¬q=k':=fun e=>h e.symm
    simp[zJA,getD,h,h']
  ·simp only[zJA,hq,if_false]
   by_cases h2:q=k'
   ·have h3:¬k'=k:=fun e=>hq (h2.trans e)
    simp[getD,h2,h3]
   ·simp only[getD,List.find?_cons,h2,decide_false]at ih ⊢
    exact ih
noncomputable def zMN (mo:Nat) (k:Dig) (row:List zaP) (x:zaP):List zaP:=if x.key=k∧zCW x=0 then zJr mo x row else row
theorem zKB (mo:Nat) (L:DbL) (x:zaP) (k:Dig):getD (zJj mo L x) k=zMN mo k (getD L k) x:=by
 unfold zJj zMN
 by_cases hc:zCW x=0
 ·rw[if_pos hc,ziY]
  by_cases h:k=x.key
  ·subst h;simp[hc]
  ·have h':¬x.key=k:=fun e=>h e.symm
   simp[h,h']
 ·simp[hc]
end Go.Proofs.YtcioeonlclpacaaGreatDoor
end
section
set_option maxRecDepth 100000
namespace Go.Proofs.YtcioeonlclpacaaGreatDoor
open Go Go.Ab
open Classical
variable [Sel] [SelPow]
noncomputable def zL2 (t:zaP):List UInt8:=if zCW t=0 then WI (zCY t) else []
theorem zQg {t:zaP} (hd:TrD t):(zL2 t).length≤6300000:=by
 unfold zL2
 split
 ·rename_i h;exact zL6 hd h
 ·simp
theorem zPy {t:zaP} (ht:TrP t) (hd:TrD t):PC Tryz.prog 47 [.av (qD Tryz.prog 49) (qK t)] (zDc t):=zEC t ht hd (zMz hd)
noncomputable def zRd (mo:Nat) (ts:List zaP):DbL:=ts.foldl (zJj mo) []
theorem zQw (mo:Nat) (ts:List zaP) (t:zaP):zRd mo (ts++[t])=zJj mo (zRd mo ts) t:=by simp[zRd]
noncomputable def ofK (k:Dig) (ts:List zaP):List zaP:=ts.filter fun t=>decide (t.key=k∧zCW t=0)
theorem zVG (mo:Nat) (k:Dig):∀(ts:List zaP) (L:DbL),getD (ts.foldl (zJj mo) L) k=(ofK k ts).foldl (fun r x=>zJr mo x r) (getD L k)
 | [],L=>rfl
 | x::r,L=>by
  rw[List.foldl_cons,zVG mo k r,zKB]
  unfold ofK zMN
  by_cases h:x.key=k∧zCW x=0
  ·rw[if_pos h,List.filter_cons_of_pos (by simpa using h),List.foldl_cons]
  ·rw[if_neg h,List.filter_cons_of_neg (by simpa using h)]
theorem zWH (mo:Nat) (k:Dig) (ts:List zaP):getD (zRd mo ts) k=(ofK k ts).foldl (fun r x=>zJr mo x r) []:=zVG mo k ts []
theorem pT {k k':Dig} {v:List zaP}:∀ {L:DbL},k'∈(zJA k v L).map Prod.fst↔k'=k∨k'∈L.map Prod.fst
 | []=>by simp[zJA]
 | (q,w)::r=>by
  have ih:=pT (k:=k) (k':=k') (v:=v) (L:=r)
  unfold zJA
  by_cases h:q=k
  ·subst h;simp
  ·rw[if_neg h]
   simp only[List.map_cons,List.mem_cons,ih]
   constructor
   ·rintro(a|b|c)
    ·exact .inr (.inl a)
    ·exact .inl b
    ·exact .inr (.inr c)
   ·rintro(a|b|c)
    ·exact .inr (.inl a)
    ·exact .inl b
    ·exact .inr (.inr c)
theorem zMP {k:Dig} {v:List zaP}:∀ {L:DbL},(L.map Prod.fst).Nodup→((zJA k v L).map Prod.fst).Nodup
 | [],_=>by simp[zJA]
 | (q,w)::r,h=>by
  rw[List.map_cons,List.nodup_cons]at h
  unfold zJA
  by_cases e:q=k
  ·subst e;simp only[if_true,List.map_cons,List.nodup_cons];exact h
  ·rw[if_neg e,List.map_cons,List.nodup_cons]
   refine⟨fun hm=>?_,zMP h.2⟩
   rcases pT.1 hm with h1|h1
   ·exact e h1
   ·exact h.1 h1
/-! ### the keys, in their order -/
theorem zQD {a b:List UInt8}:ltL b a=false↔Lib.compareBytes a b≤0:=by
 have:=zKo a b
 simp only[ltL,decide_eq_false_iff_not]
 omega
theorem zMr {a b:List UInt8} (h1:ltL b a=false) (h2:ltL a b=false):a=b:=by
 rw[zQD]at h1 h2
 have:=zKo a b
 exact zLP.1 (by omega)
theorem zRx {a b:List UInt8} (h:¬ltL b a=false):ltL a b=false:=by
 rw[zQD]at h ⊢
 have:=zKo a b
 omega
theorem zRU {a b c:List UInt8} (h1:ltL b a=false) (h2:ltL c b=false):ltL c a=false:=by
 by_cases e:a=b
 ·subst e;exact h2
 by_cases e2:b=c
 ·subst e2;exact h1
 have l1:ltL a b=true:=by
  by_cases h:ltL a b=false
  ·exact absurd (zMr h1 h) e
  ·simpa using h
 have l2:ltL b c=true:=by
  by_cases h:ltL b c=false
  ·exact absurd (zMr h2 h) e2
  ·simpa using h
 have l3:=zKQ l1 l2
 have:=zKo a c
 simp only[ltL,decide_eq_true_eq,decide_eq_false_iff_not]at l3 ⊢
 omega
theorem zPX {l m a b:List Dig} (h1:KO l a) (h2:KO m b) (hp:l.Perm m):a=b :=
 List.Perm.eq_of_pairwise (fun x y _ _ h h'=>zMr h h') h1.2 h2.2 (h1.1.trans (hp.trans h2.1.symm))
def zKJ (l:List Dig):List Dig:=l.mergeSort fun a b=>!ltL b a
theorem zKE (l:List Dig):KO l (zKJ l):=by
 refine⟨List.mergeSort_perm _ _,?_⟩
 have:=List.pairwise_mergeSort (le:=fun a b:Dig=>!ltL b a) (fun a b c h1 h2=>by
  simp only[Bool.not_eq_true',]at h1 h2 ⊢;exact zRU h1 h2) (fun a b=>by
  by_cases h:ltL b a=false
  ·simp[h]
  ·simp[zRx h]) l
 exact this.imp fun h=>by simpa using h
theorem zSE {l a:List Dig} (h:KO l a):a=zKJ l:=zPX h (zKE l) (List.Perm.refl _)
/-! ### what is in a db came in -/
theorem zM3 {k:Dig} {v:List zaP} {p:Dig × List zaP}:∀ {L:DbL},p∈zJA k v L→p=(k,v)∨p∈L
 | [],h=>by simp[zJA]at h;exact .inl h
 | (q,w)::r,h=>by
  unfold zJA at h
  split at h
  ·rcases List.mem_cons.1 h with h|h
   ·exact .inl h
   ·exact .inr (List.mem_cons_of_mem _ h)
  ·rcases List.mem_cons.1 h with h|h
   ·exact .inr (by rw[h];simp)
   ·exact(zM3 h).imp id (List.mem_cons_of_mem _)
theorem zNQ {k:Dig} {v:List zaP}:∀ {L:DbL},(zJA k v L).length≤L.length+1
 | []=>by simp[zJA]
 | (q,w)::r=>by
  have:=zNQ (k:=k) (v:=v) (L:=r)
  unfold zJA
  split
  ·simp
  ·simp;omega
theorem zNN {k:Dig} {t:zaP} {L:DbL} (h:t∈getD L k):∃p∈L,t∈p.2:=by
 unfold getD at h
 split at h
 ·rename_i p hp;exact⟨p,List.mem_of_find?_eq_some hp,h⟩
 ·simp at h
def InD (Q:zaP→Prop) (K:Dig→Prop) (L:DbL):Prop:=∀p∈L,K p.1∧∀t∈p.2,Q t
theorem zON {Q:zaP→Prop} {K:Dig→Prop} {mo:Nat} {L:DbL} {t:zaP} (h:InD Q K L) (ht:Q t) (hk:K t.key):InD Q K (zJj mo L t):=by
 unfold zJj
 split
 ·intro p hp
  rcases zM3 hp with rfl|hp
  ·refine⟨hk,fun x hx=>?_⟩
   have hx:=List.mem_of_mem_take hx
   rcases List.mem_cons.1 hx with rfl|hx
   ·exact ht
   ·rw[zQ8]at hx
    obtain⟨p,hp,hx⟩:=zNN (List.mem_filter.1 hx).1
    exact(h p hp).2 x hx
  ·exact h p hp
 ·exact h
end Go.Proofs.YtcioeonlclpacaaGreatDoor
end
