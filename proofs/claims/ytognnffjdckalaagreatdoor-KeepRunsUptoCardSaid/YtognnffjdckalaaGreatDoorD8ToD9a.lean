/- What a key's row is, behind many: the latest ones, each once. No condition. -/
import Derived.Test.YtognnffjdckalaaGreatDoorE2ToD7
set_option linter.unusedSimpArgs false
set_option linter.unusedVariables false
set_option linter.unusedSectionVars false
set_option maxHeartbeats 64000000
set_option maxRecDepth 100000
namespace Go.Proofs.YtognnffjdckalaaGreatDoor
open Go Go.Ab
open Classical
section
variable [Sel]
theorem zcK (x:qD) (ts:List qD):kp x ts=ts.filter (fun y=>decide (y≠x)):=by
 unfold kp
 congr 1
 funext y
 by_cases h:y=x
 ·subst h
  have:wT y y=true:=WM.2 rfl
  simp[this]
 ·have:wT y x=false:=by
   cases hs:wT y x
   ·rfl
   ·exact absurd (WM.1 hs) h
  simp[this,h]
theorem UI (k k':Dig) (v:List qD):∀L:DbL,getD (Q5 k v L) k'=if k'=k then v else getD L k'
 | []=>by
  by_cases h:k'=k
  ·simp[Q5,getD,h]
  ·simp[Q5,getD,h,Ne.symm h]
 | (q,u)::r=>by
  have ih:=UI k k' v r
  by_cases hq:q=k
  ·subst hq
   by_cases h:k'=q
   ·simp[Q5,getD,h]
   ·have h':¬q=k':=fun e=>h e.symm
    simp[Q5,getD,h,h']
  ·simp only[Q5,hq,if_false]
   by_cases h2:q=k'
   ·have h3:¬k'=k:=fun e=>hq (h2.trans e)
    simp[getD,h2,h3]
   ·simp only[getD,List.find?_cons,h2,decide_false]at ih |-
    exact ih
noncomputable def zaN (mo:Nat) (k:Dig) (row:List qD) (x:qD):List qD:=if x.key=k/\qY x=0 then yG mo x row else row
theorem xT (mo:Nat) (L:DbL) (x:qD) (k:Dig):getD (kU mo L x) k=zaN mo k (getD L k) x:=by
 unfold kU zaN
 by_cases hc:qY x=0
 ·rw[if_pos hc,UI]
  by_cases h:k=x.key
  ·subst h;simp[hc]
  ·have h':¬x.key=k:=fun e=>h e.symm
   simp[h,h']
 ·simp[hc]
end
section
variable [Sel] [SelPow]
noncomputable def WI (t:qD):List UInt8:=if qY t=0 then k9 (jK t) else []
theorem zfI {t:qD} (hd:TrD t):(WI t).length<=6300000:=by
 unfold WI
 split
 ·rename_i h;exact WY hd h
 ·simp
theorem zcg {t:qD} (ht:TrP t) (hd:TrD t):PC Tryz.prog 40 [.av (q8 Tryz.prog 56) (q5 t)] (wO t):=zo0 t ht hd (zci hd)
theorem zdW (d:Nat) {q:Nat} (h:0<q):tkO d q=.own d q:=by
 obtain⟨k,rfl⟩:∃k,q=k+1:=⟨q-1,by omega⟩;rfl
noncomputable def znN (mo:Nat) (ts:List qD):DbL:=ts.foldl (kU mo) []
theorem zmT (mo:Nat) (ts:List qD) (t:qD):znN mo (ts++[t])=kU mo (znN mo ts) t:=by simp[znN]
theorem cC {k k':Dig} {v:List qD}:∀ {L:DbL},k'∈(Q5 k v L).map Prod.fst<->k'=k\/k'∈L.map Prod.fst
 | []=>by simp[Q5]
 | (q,w)::r=>by
  have ih:=cC (k:=k) (k':=k') (v:=v) (L:=r)
  unfold Q5
  by_cases h:q=k
  ·subst h;simp
  ·rw[if_neg h]
   simp only[List.map_cons,List.mem_cons,ih]
   constructor
   ·rintro(a|b|c)
    ·exact .inr (.inl a)
    ·exact .inl b
    ·exact .inr (.inr c)
   ·rintro(a|b|c)
    ·exact .inr (.inl a)
    ·exact .inl b
    ·exact .inr (.inr c)
theorem d8 {k:Dig} {v:List qD}:∀ {L:DbL},(L.map Prod.fst).Nodup->((Q5 k v L).map Prod.fst).Nodup
 | [],_=>by simp[Q5]
 | (q,w)::r,h=>by
  rw[List.map_cons,List.nodup_cons]at h
  unfold Q5
  by_cases e:q=k
  ·subst e;simp only[if_true,List.map_cons,List.nodup_cons];exact h
  ·rw[if_neg e,List.map_cons,List.nodup_cons]
   refine⟨fun hm=>?_,d8 h.2⟩
   rcases cC.1 hm with h1|h1
   ·exact e h1
   ·exact h.1 h1
theorem zm4 {a b:List UInt8}:ltL b a=false<->Lib.compareBytes a b<=0:=by
 have:=u7 a b
 simp only[ltL,decide_eq_false_iff_not]
 omega
theorem gX {a b:List UInt8} (h1:ltL b a=false) (h2:ltL a b=false):a=b:=by
 rw[zm4]at h1 h2
 have:=u7 a b
 exact cK.1 (by omega)
theorem zop {a b:List UInt8} (h:¬ltL b a=false):ltL a b=false:=by
 rw[zm4]at h |-
 have:=u7 a b
 omega
theorem zoO {a b c:List UInt8} (h1:ltL b a=false) (h2:ltL c b=false):ltL c a=false:=by
 by_cases e:a=b
 ·subst e;exact h2
 by_cases e2:b=c
 ·subst e2;exact h1
 have l1:ltL a b=true:=by
  by_cases h:ltL a b=false
  ·exact absurd (gX h1 h) e
  ·simpa using h
 have l2:ltL b c=true:=by
  by_cases h:ltL b c=false
  ·exact absurd (gX h2 h) e2
  ·simpa using h
 have l3:=xW l1 l2
 have:=u7 a c
 simp only[ltL,decide_eq_true_eq,decide_eq_false_iff_not]at l3 |-
 omega
theorem zim {l m a b:List Dig} (h1:KO l a) (h2:KO m b) (hp:l.Perm m):a=b :=
 List.Perm.eq_of_pairwise (fun x y _ _ h h'=>gX h h') h1.2 h2.2 (h1.1.trans (hp.trans h2.1.symm))
def yB (l:List Dig):List Dig:=l.mergeSort fun a b=>!ltL b a
theorem y9 (l:List Dig):KO l (yB l):=by
 refine⟨List.mergeSort_perm _ _,?_⟩
 have:=List.pairwise_mergeSort (le:=fun a b:Dig=>!ltL b a) (fun a b c h1 h2=>by
  simp only[Bool.not_eq_true',]at h1 h2 |-;exact zoO h1 h2) (fun a b=>by
  by_cases h:ltL b a=false
  ·simp[h]
  ·simp[zop h]) l
 exact this.imp fun h=>by simpa using h
theorem zd6 {l a:List Dig} (h:KO l a):a=yB l:=zim h (y9 l) (List.Perm.refl _)
theorem zac {k:Dig} {v:List qD} {p:Dig × List qD}:∀ {L:DbL},p∈Q5 k v L->p=(k,v)\/p∈L
 | [],h=>by simp[Q5]at h;exact .inl h
 | (q,w)::r,h=>by
  unfold Q5 at h
  split at h
  ·rcases List.mem_cons.1 h with h|h
   ·exact .inl h
   ·exact .inr (List.mem_cons_of_mem _ h)
  ·rcases List.mem_cons.1 h with h|h
   ·exact .inr (by rw[h];simp)
   ·exact(zac h).imp id (List.mem_cons_of_mem _)
theorem zgy {k:Dig} {v:List qD}:∀ {L:DbL},(Q5 k v L).length<=L.length+1
 | []=>by simp[Q5]
 | (q,w)::r=>by
  have:=zgy (k:=k) (v:=v) (L:=r)
  unfold Q5
  split
  ·simp
  ·simp;omega
theorem zbs {k:Dig} {t:qD} {L:DbL} (h:t∈getD L k):∃p∈L,t∈p.2:=by
 unfold getD at h
 split at h
 ·rename_i p hp;exact⟨p,List.mem_of_find?_eq_some hp,h⟩
 ·simp at h
def InD (Q:qD->Prop) (K:Dig->Prop) (L:DbL):Prop:=∀p∈L,K p.1/\∀t∈p.2,Q t
theorem ziL {Q:qD->Prop} {K:Dig->Prop} {mo:Nat} {L:DbL} {t:qD} (h:InD Q K L) (ht:Q t) (hk:K t.key):InD Q K (kU mo L t):=by
 unfold kU
 split
 ·intro p hp
  rcases zac hp with rfl|hp
  ·refine⟨hk,fun x hx=>?_⟩
   have hx:=List.mem_of_mem_take hx
   rcases List.mem_cons.1 hx with rfl|hx
   ·exact ht
   ·rw[zcK]at hx
    obtain⟨p,hp,hx⟩:=zbs (List.mem_filter.1 hx).1
    exact(h p hp).2 x hx
  ·exact h p hp
 ·exact h
end
section
variable [Sel]
theorem PN (p:List (List UInt8)) (k:Nat) (h:k<p.length):(strs p)[k]?=some (.s p[k]):=by simp[strs,List.getElem?_eq_getElem h]
theorem cO (l:List UInt8) (hl:l.length<=1000000000):PC Tryz.prog 105 [.av .str (.s l)] (.av .bool (.b (Z3 l))):=by
 refine zow Tryz.func105 cf0 fun imm0 w0=>?_
 simp (disch:=omega) [zz]
 refine zcv (zcZ l hl) ?_
 simp (disch:=omega) [zz]
 have hle:=vU 47 l
 obtain⟨p,hp⟩:∃p,p=qP 47 l:=⟨_,rfl⟩
 have hlen:∀x∈p,x.length<=l.length:=fun x hx=>ZM 47 l x (by rw[<-hp];exact hx)
 rw[<-hp]at hle |-
 refine AT.loop' (α:=Nat) (fun k=>St.of [(3,.av (.slice 9) (.sl .no (strs p))),(4,.av (.int .i64) (.i .i64 k))] [] (fun _=>0) []) (fun k=>k<=p.length/\∀x∈p.take k,QT x=true) (fun k=>p.length-k) 0 ?_ ?_ ?_
 ·apply Le.of<;>simp[le9,jF]<;>try omega
 ·simp
 rintro k ⟨hk,hall⟩ KL hN hE
 refine zrd cf0 ?_
 by_cases hlt:k<p.length
 ·have hlt':(k:Int)<p.length:=by omega
  have hx:=hlen p[k] (List.getElem_mem _)
  have hg:=PN p k hlt
  simp (disch:=omega) [zz,hlt',hg]
  refine zcv (zlS p[k] (by omega)) ?_
  cases hpv:QT p[k]
  ·simp (disch:=omega) [zz]
   refine hE _ _ (by simp) ?_
   have:Z3 l=false:=by
    simp only[Z3,Bool.and_eq_false_iff]
    right
    rw[List.all_eq_false]
    exact⟨p[k],by rw[<-hp];exact List.getElem_mem _,by simp[hpv]⟩
   simp (disch:=omega) [zz,Tryz.f105,this]
  ·simp (disch:=omega) [zz]
   refine hN _ (k+1) ?_ ⟨by omega,by rw[xJ hlt];exact⟨hall,hpv⟩⟩ (by omega)
   apply Le.of<;>simp[le9,jF]<;>try omega
 ·have hlt':¬(k:Int)<p.length:=by omega
  simp (disch:=omega) [zz,hlt']
  refine hE _ _ (by simp) ?_
  rw[List.take_of_length_le (by omega)]at hall
  have hal:p.all QT=true:=by simpa using hall
  simp (disch:=omega) [zz,Tryz.f105,Z3,<-hp,hal]
  omega
theorem zbZ (p:List (List UInt8)) (k:Nat):(QG (p.take k)).length<=(QG p).length:=by
 by_cases h1:p.take k=[]
 ·rw[h1];simp[QG]
 by_cases h2:p.drop k=[]
 ·have:=List.take_append_drop k p
  rw[h2,List.append_nil]at this
  rw[this];exact Nat.le_refl _
 ·have:=vH _ _ h1 h2
  rw[List.take_append_drop]at this
  rw[this];simp
theorem zoN (l:List UInt8) (hl:l.length<=1000000000):PC Tryz.prog 162 [.av .str (.s l)] (.av .str (.s (uL l))):=by
 refine zow Tryz.func162 cf0 fun imm0 w0=>?_
 simp (disch:=omega) [zz]
 refine zcv (zcZ l hl) ?_
 simp (disch:=omega) [zz]
 refine zcv (cO l hl) ?_
 have hle:=vU 47 l
 have hne:=ZY 47 l
 obtain⟨p,hp⟩:∃p,p=qP 47 l:=⟨_,rfl⟩
 have hlen:∀x∈p,x.length<=l.length:=fun x hx=>ZM 47 l x (by rw[<-hp];exact hx)
 have hjl:QG p=l:=by rw[hp];exact YT l
 have hjt:=fun k=>zbZ p k
 rw[hjl]at hjt
 have hd:uL l=if Z3 l=true/\p.length≠1 then QG p.dropLast else []:=by rw[hp];rfl
 rw[<-hp]at hle hne |-
 have hpos:0<p.length:=List.length_pos_iff.2 hne
 cases hm:Z3 l
 ·simp (disch:=omega) [zz,Tryz.f162,hd,hm]
 by_cases h1:p.length=1
 ·simp (disch:=omega) [zz,h1,Tryz.f162,hd,hm]
 have h1':¬(p.length:Int)=1:=by omega
 have hg0:=PN p 0 hpos
 simp (disch:=omega) [zz,h1',hg0]
 refine⟨hpos,?_⟩
 refine AT.loop' (α:=Nat) (fun k=>St.of [(3,.av (.slice 9) (.sl .no (strs p))),(4,.av .str (.s (QG (p.take k)))),(5,.av (.int .i64) (.i .i64 k))] [] (fun _=>0) []) (fun k=>1<=k/\k+1<=p.length) (fun k=>p.length-k) 1 ?_ ?_ ?_
 ·have e:QG (p.take 1)=p[0]:=by
   cases p with
   | nil=>exact absurd rfl hne
   | cons x r=>simp[QG]
  apply Le.of<;>simp[le9,jF,e]<;>try omega
 ·omega
 rintro k ⟨hk1,hk2⟩ KL hN hE
 refine zrd cf0 ?_
 by_cases hlt:k+1<p.length
 ·have hlt':(k:Int)<(p.length:Int)-1:=by omega
  have hx:=hlen p[k] (List.getElem_mem _)
  have hg:=PN p k (by omega)
  have hj:=hjt k
  have hsn:QG (p.take (k+1))=QG (p.take k)++47::p[k]:=by
   rw[List.take_succ_eq_append_getElem (by omega),vH _ _ (by
    intro h
    rcases List.take_eq_nil_iff.1 h with h|h
    ·omega
    ·exact hne h) (by simp)]
   rfl
  simp (disch:=omega) [zz,hlt',hg]
  (repeat with_reducible refine om ?_)
  refine hN _ (k+1) ?_ ⟨by omega,by omega⟩ (by omega)
  apply Le.of<;>simp[le9,jF,hsn]<;>try omega
 ·have hlt':¬(k:Int)<(p.length:Int)-1:=by omega
  simp (disch:=omega) [zz,hlt']
  refine hE _ _ (by simp) ?_
  have e:p.take k=p.dropLast:=by rw[List.dropLast_eq_take];congr 1;omega
  simp (disch:=omega) [zz,Tryz.f162,hd,hm,h1,e]
theorem PX (d:List UInt8) (hdl:d.length<=1000000000):∀(n:Nat) (l:List UInt8),l.length<=n->l.length<=1000000000->PC Tryz.prog 106 [.av .str (.s l),.av .str (.s d)] (.av .bool (.b (wF l d)))
 | 0,l,hn,hl=>by
  obtain rfl:l=[]:=List.eq_nil_of_length_eq_zero (by omega)
  refine zow Tryz.func106 cf0 fun imm0 w0=>?_
  simp (disch:=omega) [zz]
  refine YE (cO [] (by simp)) rfl rfl (by simp) (by simp[q9,TV.er,AV.er,coC]) ?_
  have hm:Z3 []=false:=by decide
  simp (disch:=omega) [zz,Tryz.f106,wF,hm]
 | n+1,l,hn,hl=>by
  refine zow Tryz.func106 cf0 fun imm0 w0=>?_
  simp (disch:=omega) [zz]
  refine YE (cO l hl) rfl rfl (by simp) (by simp[q9,TV.er,AV.er,coC]) ?_
  cases hm:Z3 l
  ·simp (disch:=omega) [zz,Tryz.f106,wF,hm]
  by_cases hd:d=[]
  ·simp (disch:=omega) [zz,Tryz.f106,wF,hm,hd]
  simp (disch:=omega) [zz,hd]
  refine YE (zoN l hl) rfl rfl (by simp) (by simp[q9,TV.er,AV.er,coC]) ?_
  have hst:=zfo hm hd
  have hlt:=zpt (l:=l)
  generalize hu:uL l=u at *
  by_cases h1:u=[]
  ·simp (disch:=omega) [zz,Tryz.f106,hst,h1]
  by_cases h2:u=d
  ·simp (disch:=omega) [zz,Tryz.f106,hst,h1,h2,hd]
  have hlu:=hlt h1
  simp (disch:=omega) [zz,h1,h2]
  refine YE (PX d hdl n u (by omega) (by omega)) rfl rfl (by simp) (by simp[q9,TV.er,AV.er,coC]) ?_
  simp (disch:=omega) [zz,Tryz.f106,hst,h1,h2]
theorem zmh:∀(a b:List UInt8),a≠b->Op.bytesLess a b=!Op.bytesLess b a
 | [],[],h=>absurd rfl h
 | [],_::_,_=>by simp[Op.bytesLess]
 | _::_,[],_=>by simp[Op.bytesLess]
 | a::x,b::y,h=>by
  simp only[Op.bytesLess]
  by_cases hab:a=b
  ·subst hab
   have:=zmh x y (fun e=>h (by rw[e]))
   simp[this]
  ·have hba:¬b=a:=fun e=>hab e.symm
   simp only[beq_iff_eq,hab,hba,Bool.false_and,Bool.or_false,beq_eq_false_iff_ne.2 hab,beq_eq_false_iff_ne.2 hba]
   rw[Bool.eq_iff_iff]
   simp only[decide_eq_true_eq,Bool.not_eq_true',decide_eq_false_iff_not,UInt8.lt_iff_toNat_lt]
   have:a.toNat≠b.toNat:=fun e=>hab (UInt8.toNat_inj.1 e)
   omega
theorem vT (t:qD) (ht:TrP t) (hr2:∀r∈t.reads,r.path.length<=1000000000) (ho2:∀r∈t.outs,r.path.length<=1000000000):PC Tryz.prog 47 [.av (q8 Tryz.prog 56) (q5 t)] (.av (.int .i64) (.i .i64 (qY t))):=by
 obtain⟨⟨hr1,_⟩,ho1,_⟩:=ht
 refine zow Tryz.func47 cf0 fun imm0 w0=>?_
 by_cases h1:500<t.reads.length
 ·have h1':(500:Int)<t.reads.length:=by omega
  simp (disch:=omega) [zz,q5,qE,qF,h1',Tryz.f47,qY,h1]
 have h1':¬(500:Int)<t.reads.length:=by omega
 by_cases h2:1000<t.outs.length
 ·have h2':(1000:Int)<t.outs.length:=by omega
  simp (disch:=omega) [zz,q5,qE,qF,h1',h2',Tryz.f47,qY,h1,h2]
 have h2':¬(1000:Int)<t.outs.length:=by omega
 have hcv:qY t=if yO [] t.reads≠0 then yO [] t.reads else ZD none t.outs:=by simp[qY,h1,h2]
 simp (disch:=omega) [zz,q5,qE,qF,h1',h2']
 refine AT.loop' (α:=Nat) (fun k=>St.of [(1,.loc 1 []),(3,.av (.int .i64) (.i .i64 k))] [(1,(q8 Tryz.prog 56,q5 t))] (fun _=>0) [])
  (fun k=>k<=t.reads.length/\yO [] t.reads=yO ((t.reads.take k).map (·.path)) (t.reads.drop k)) (fun k=>t.reads.length-k) 0 ?_ ?_ ?_
 ·apply Le.of<;>simp[le9,q5,qE,qF]<;>try omega
 ·simp
 rintro k ⟨hk,hpk⟩ KL hN hE
 refine zrd cf0 ?_
 by_cases hlt:k<t.reads.length
 ·have hlt':(k:Int)<t.reads.length:=by omega
  have hdr:t.reads.drop k=t.reads[k]::t.reads.drop (k+1):=(List.getElem_cons_drop hlt).symm
  have htk:(t.reads.take (k+1)).map (·.path)=(t.reads.take k).map (·.path)++[t.reads[k].path]:=by
   rw[List.take_succ_eq_append_getElem hlt]
   simp only[List.map_append,List.map_cons,List.map_nil]
  have hg:=wC qV t.reads k hlt
  have hpl:=hr2 t.reads[k] (List.getElem_mem _)
  obtain⟨r,hr⟩:∃r,r=t.reads[k]:=⟨_,rfl⟩
  rw[<-hr]at hdr htk hg hpl
  have hml:((t.reads.take k).map (·.path)).length=k:=by simp;omega
  have hmg:∀j (hj:j<k) (hj2:j<t.reads.length),t.reads[j].path=((t.reads.take k).map (·.path))[j]'(by rw[hml];exact hj):=by
   intro j hj hj2;simp
  obtain⟨met,hmet⟩:∃met,met=(t.reads.take k).map (·.path):=⟨_,rfl⟩
  have hin0:r.path∈met<->∃j,∃(hj:j<k) (hj2:j<t.reads.length),t.reads[j].path=r.path:=by
   rw[hmet]
   constructor
   ·intro h
    obtain⟨j,hj,he⟩:=List.mem_iff_getElem.1 h
    rw[hml]at hj
    exact⟨j,hj,by omega,by rw[hmg j hj (by omega)];exact he⟩
   ·rintro⟨j,hj,hj2,he⟩
    rw[<-he,hmg j hj hj2]
    exact List.getElem_mem _
  rw[<-hmet]at hpk htk
  rw[hdr,yO]at hpk
  simp (disch:=omega) [zz,hlt',hg,q5,qE,qV]
  refine zcv (cO r.path (by omega)) ?_
  cases hm:Z3 r.path
  ·rw[if_pos hm]at hpk
   simp (disch:=omega) [zz]
   refine hE _ _ (by simp) ?_
   simp (disch:=omega) [zz,Tryz.f47,hcv,hpk]
  rw[if_neg (by simp[hm])]at hpk
  simp (disch:=omega) [zz]
  refine AT.loop' (α:=Nat) (fun j=>St.of [(1,.loc 1 []),(3,.av (.int .i64) (.i .i64 k)),(4,.loc 4 []),(5,.av (.int .i64) (.i .i64 j))] [(1,(q8 Tryz.prog 56,q5 t)),(4,(q8 Tryz.prog 82,qV r))] (fun _=>0) [])
   (fun j=>j<=k/\∀i,i<j->∀(h:i<t.reads.length),t.reads[i].path≠r.path) (fun j=>k-j) 0 ?_ ?_ ?_
  ·apply Le.of<;>simp[le9,q5,qE,qF,qV]<;>try omega
  ·exact⟨by omega,fun i h=>by omega⟩
  rintro j ⟨hj,hall⟩ KL2 hN2 hE2
  refine zrd cf0 ?_
  by_cases hjk:j<k
  ·have hjk':(j:Int)<k:=by omega
   have hjl:j<t.reads.length:=by omega
   have hjl':(j:Int)<t.reads.length:=by omega
   have hgj:=wC qV t.reads j hjl
   obtain⟨q,hq⟩:∃q,q=t.reads[j]:=⟨_,rfl⟩
   rw[<-hq]at hgj
   by_cases he:q.path=r.path
   ·have hin:r.path∈met:=hin0.2 ⟨j,hjk,hjl,by rw[<-hq];exact he⟩
    rw[if_pos hin]at hpk
    simp (disch:=omega) [zz,hjk,hjk',hjl',hgj,q5,qE,qV,he]
    (repeat with_reducible refine om ?_)
    refine hE2 _ _ (by simp) ?_
    simp (disch:=omega) [zz]
    refine hE _ _ (by simp) ?_
    simp (disch:=omega) [zz,Tryz.f47,hcv,hpk]
   ·simp (disch:=omega) [zz,hjk,hjk',hjl',hgj,q5,qE,qV,he]
    (repeat with_reducible refine om ?_)
    refine hN2 _ (j+1) ?_ ⟨by omega,fun i hi h=>?_⟩ (by omega)
    ·apply Le.of<;>simp[le9,q5,qE,qF,qV]<;>try omega
    ·rcases Nat.lt_or_ge i j with h3|h3
     ·exact hall i h3 h
     ·have:i=j:=by omega
      subst this;rw[<-hq];exact he
  have hjk':¬(j:Int)<k:=by omega
  have hin:¬r.path∈met:=fun h=>by
   obtain⟨i,hi,hi2,he⟩:=hin0.1 h
   exact hall i (by omega) hi2 he
  rw[if_neg hin]at hpk
  simp (disch:=omega) [zz,hjk,hjk']
  refine hE2 _ _ (by simp) ?_
  cases his:r.is
  ·by_cases hz:r.sum=kZ
   ·rw[if_neg (by simp[hz])]at hpk
    simp (disch:=omega) [zz,qV,his,hz,zY,-List.reduceReplicate]
    refine hN _ (k+1) ?_ ⟨by omega,by rw[htk];exact hpk⟩ (by omega)
    apply Le.of<;>simp[le9,q5,qE,qF]<;>try omega
   ·rw[if_pos ⟨his,hz⟩]at hpk
    have hz':¬r.sum.map (fun b=>AV.i .u8 b.toNat)=List.replicate 32 (.i .u8 0):=by
     intro h
     have:=zY
     simp only[qK,AV.agg.injEq]at this
     exact hz (j9.1 (h.trans this.symm))
    simp (disch:=omega) [zz,qV,his,qK,hz',-List.reduceReplicate]
    refine hE _ _ (by simp) ?_
    simp (disch:=omega) [zz,Tryz.f47,hcv,hpk]
  ·rw[if_neg (by simp[his])]at hpk
   simp (disch:=omega) [zz,qV,his]
   refine hN _ (k+1) ?_ ⟨by omega,by rw[htk];exact hpk⟩ (by omega)
   apply Le.of<;>simp[le9,q5,qE,qF]<;>try omega
 have hlt':¬(k:Int)<t.reads.length:=by omega
 rw[List.drop_of_length_le (by omega),yO]at hpk
 have hcv2:qY t=ZD none t.outs:=by rw[hcv,hpk];simp
 simp (disch:=omega) [zz,hlt',q5,qE]
 refine hE _ _ (by simp) ?_
 simp (disch:=omega) [zz,q5,qF]
 refine AT.loop' (α:=Nat) (fun k=>St.of [(1,.loc 1 []),(6,.av (.int .i64) (.i .i64 k))] [(1,(q8 Tryz.prog 56,q5 t))] (fun _=>0) [])
  (fun k=>k<=t.outs.length/\ZD none t.outs=ZD (xG t.outs k) (t.outs.drop k)) (fun k=>t.outs.length-k) 0 ?_ ?_ ?_
 ·apply Le.of<;>simp[le9,q5,qE,qF]<;>try omega
 ·simp[xG]
 rintro k2 ⟨hk2,hpk2⟩ KL2 hN2 hE2
 refine zrd cf0 ?_
 by_cases hlt2:k2<t.outs.length
 ·have hlt2':(k2:Int)<t.outs.length:=by omega
  have hdr:t.outs.drop k2=t.outs[k2]::t.outs.drop (k2+1):=(List.getElem_cons_drop hlt2).symm
  have hpn:xG t.outs (k2+1)=some t.outs[k2].path:=by simp[xG,List.getElem?_eq_getElem hlt2]
  have hg:=wC qS t.outs k2 hlt2
  have hpl:=ho2 t.outs[k2] (List.getElem_mem _)
  obtain⟨m,hm⟩:∃m,m=t.outs[k2]:=⟨_,rfl⟩
  rw[<-hm]at hdr hpn hg hpl
  by_cases h0:k2=0
  ·have h0':¬0<k2:=by omega
   rw[hdr,xG,if_pos h0,ZD]at hpk2
   simp (disch:=omega) [zz,hlt2',hg,q5,qF,qS]
   refine YE (PX V3 (by decide) m.path.length m.path (by omega) (by omega)) rfl rfl (by simp) (by simp[q9,TV.er,AV.er,coC,V3]) ?_
   cases hu:wF m.path V3
   ·rw[if_pos hu]at hpk2
    simp (disch:=omega) [zz]
    refine hE2 _ _ (by simp) ?_
    simp (disch:=omega) [zz,Tryz.f47,hcv2,hpk2]
   ·rw[if_neg (by simp[hu])]at hpk2
    simp (disch:=omega) [zz,h0']
    refine hN2 _ (k2+1) ?_ ⟨by omega,by rw[hpn];exact hpk2⟩ (by omega)
    apply Le.of<;>simp[le9,q5,qE,qF]<;>try omega
  ·have h0':0<k2:=by omega
   have hk1:k2-1<t.outs.length:=by omega
   have hk1':(k2:Int)-1<t.outs.length:=by omega
   have hk1'':(1:Int)<=k2:=by omega
   have hgp:=wC qS t.outs (k2-1) hk1
   have hprev:xG t.outs k2=some t.outs[k2-1].path:=by simp[xG,h0,List.getElem?_eq_getElem hk1]
   obtain⟨q,hq⟩:∃q,q=t.outs[k2-1]:=⟨_,rfl⟩
   rw[<-hq]at hgp hprev
   rw[hdr,hprev,ZD]at hpk2
   simp (disch:=omega) [zz,hlt2',hg,q5,qF,qS]
   refine YE (PX V3 (by decide) m.path.length m.path (by omega) (by omega)) rfl rfl (by simp) (by simp[q9,TV.er,AV.er,coC,V3]) ?_
   cases hu:wF m.path V3
   ·rw[if_pos hu]at hpk2
    simp (disch:=omega) [zz]
    refine hE2 _ _ (by simp) ?_
    simp (disch:=omega) [zz,Tryz.f47,hcv2,hpk2]
   rw[if_neg (by simp[hu])]at hpk2
   by_cases he:m.path=q.path
   ·rw[if_pos he]at hpk2
    simp (disch:=omega) [zz,h0',hk1',hk1'',hgp,he,q5,qF,qS]
    (repeat with_reducible refine om ?_)
    refine hE2 _ _ (by simp) ?_
    simp (disch:=omega) [zz,Tryz.f47,hcv2,hpk2]
   rw[if_neg he]at hpk2
   have he':¬q.path=m.path:=fun e=>he e.symm
   have hbn:=zmh m.path q.path he
   cases hbl:Op.bytesLess m.path q.path
   ·rw[if_neg (by simp[hbl])]at hpk2
    have hbl2:Op.bytesLess q.path m.path=true:=by rw[hbl]at hbn;simpa using hbn.symm
    simp (disch:=omega) [zz,h0',hk1',hk1'',hgp,he',q5,qF,qS,hbl2]
    (repeat with_reducible refine om ?_)
    refine hN2 _ (k2+1) ?_ ⟨by omega,by rw[hpn];exact hpk2⟩ (by omega)
    apply Le.of<;>simp[le9,q5,qE,qF]<;>try omega
   ·rw[if_pos hbl]at hpk2
    have hbl2:Op.bytesLess q.path m.path=false:=by rw[hbl]at hbn;simpa using hbn.symm
    simp (disch:=omega) [zz,h0',hk1',hk1'',hgp,he',q5,qF,qS,hbl2]
    (repeat with_reducible refine om ?_)
    refine hE2 _ _ (by simp) ?_
    simp (disch:=omega) [zz,Tryz.f47,hcv2,hpk2]
 ·have hlt2':¬(k2:Int)<t.outs.length:=by omega
  simp (disch:=omega) [zz,hlt2',q5,qF]
  refine hE2 _ _ (by simp) ?_
  rw[List.drop_of_length_le (by omega)]at hpk2
  have hz:∀o,ZD o []=0:=fun o=>by cases o<;>rfl
  rw[hz]at hpk2
  simp (disch:=omega) [zz,Tryz.f47,hcv2,hpk2]
def TrW (t:qD):Prop:=TrP t/\(∀r∈t.reads,r.path.length<=1000000000)/\∀r∈t.outs,r.path.length<=1000000000
theorem TrW.ok {t:qD} (h:TrW t):uN t:=⟨h.1.1.1,h.1.2.1⟩
theorem TrW.check {t:qD} (h:TrW t):PC Tryz.prog 47 [.av (q8 Tryz.prog 56) (q5 t)] (.av (.int .i64) (.i .i64 (qY t))):=vT t h.1 h.2.1 h.2.2
theorem KI (x:qD):trs [x]=[q5 x]:=rfl
end
end Go.Proofs.YtognnffjdckalaaGreatDoor
