/- Rings: who is stuck has one; plain. No condition. -/
import Derived.Test.YtfkcpballfhddaaGreatDoorSG0ToSNa
set_option linter.unusedSimpArgs false
set_option linter.unusedVariables false
set_option linter.unusedSectionVars false
set_option maxHeartbeats 64000000
section
set_option maxRecDepth 100000
namespace Go.Proofs.YtfkcpballfhddaaGreatDoor
open Go Go.Ab
open Classical
variable [Sel] [SelPow] [SelMax]
theorem ziA:∀r:List Nat,r≠[]->∃c,∃h:c<r.length,∀j∈r,r[c]<=j
 | [],h=>absurd rfl h
 | y::r,_=>by
  obtain⟨c,hc,he⟩:=List.getElem_of_mem (zfp y r)
  refine⟨c,hc,fun j hj=>?_⟩
  rw[he]
  have:=zjd y r
  rcases List.mem_cons.1 hj with rfl|hj
  ·exact this.1
  ·exact this.2 j hj
theorem zrl {f:Nat->Nat} {i n:Nat} (hn:∀k,itF f k i<n):∃l,KG f l/\∃t,itF f t i∈l:=by
 have key:∀m,(orb f i m).Nodup\/∃k,(orb f i k).Nodup/\itF f k i∈orb f i k:=by
  intro m
  induction m with
  | zero=>exact .inl (by simp[orb])
  | succ m ih =>
   rcases ih with ih|ih
   ·by_cases h:itF f m i∈orb f i m
    ·exact .inr ⟨m,ih,h⟩
    ·left
     rw[vO,List.nodup_append]
     exact⟨ih,by simp,fun a ha b hb e=>h (by rw[List.mem_singleton.1 hb]at e;exact e▸ha)⟩
   ·exact .inr ih
 rcases key (n+1)with h|⟨k,hd,hm⟩
 ·exfalso
  have:=List.Nodup.length_le_of_subset (l₂:=List.range n) h fun y hy=>by
   obtain⟨j,_,rfl⟩:=Y7.1 hy
   exact List.mem_range.2 (hn j)
  rw[yV]at this;simp at this;omega
 ·obtain⟨a,ha,he⟩:=Y7.1 hm
  obtain⟨r,hr⟩:∃r,r=(orb f i k).drop a:=⟨_,rfl⟩
  have hrl:r.length=k-a:=by rw[hr,List.length_drop,yV]
  obtain⟨c,hc,hle⟩:=ziA r (fun e=>by rw[e]at hrl;simp at hrl;omega)
  obtain⟨h1,h2⟩:=DU hd ha he hr hc hle
  exact⟨_,h1,_,h2⟩
theorem KG.from {f:Nat->Nat} {l:List Nat} (hl:KG f l) {i t:Nat} (ht:itF f t i∈l) {j:Nat} (hj:j∈l):∃s,itF f s i=j:=by
 obtain⟨h,n,hn,rfl,hp,_,_⟩:=hl
 obtain⟨a,ha,h1⟩:=Y7.1 ht
 obtain⟨b,hb,h2⟩:=Y7.1 hj
 refine⟨t+(n-a+b),?_⟩
 rw[QV,<-h1,<-QV,show a+(n-a+b)=n+b from by omega,QV,hp,h2]
section
variable {w:qQ} (hw:gA w)
include hw
theorem zi3 {i:Nat} (hi:i<w.acts.length) (h:jI (qL w) i=none):K2 (qL w) i<w.acts.length/\jI (qL w) (K2 (qL w) i)=none:=by
 have he:=(v8 hw hi).1
 obtain⟨b,hb⟩:=he
 have hbx:JI (qL w) i=b:=by unfold JI;rw[hb];rfl
 have hm:∃m,(qL w).who b.asks=some m:=by
  cases hm:(qL w).who b.asks with
  | some m=>exact⟨m,rfl⟩
  | none =>
   exfalso
   rcases VE 600 hb with h1|h1
   ·rw[(zbK ⟨b,hb⟩ (KV 600 hb) h1).2]at h;cases h
   ·unfold kF at h1
    rw[hm]at h1;cases h1
 obtain⟨m,hm⟩:=hm
 have hn:K2 (qL w) i=m:=by unfold K2;rw[hbx,hm];rfl
 rw[hn]
 exact⟨(Q6 (hm:jK w.acts b.asks=some m)).1,zdh ⟨b,hb⟩ h (by rw[hbx];exact hm)⟩
theorem zdH {i:Nat} (hi:i<w.acts.length) (h:jI (qL w) i=none):∀k,itF (K2 (qL w)) k i<w.acts.length/\jI (qL w) (itF (K2 (qL w)) k i)=none
 | 0=>⟨hi,h⟩
 | k+1=>by
  obtain⟨h1,h2⟩:=zdH hi h k
  rw[pP]
  exact zi3 hw h1 h2
theorem zdE (i:Nat):(jH (qL w) i).kind=3<->jI (qL w) i=none:=by
 rcases vJ (qL w) i with⟨h1,h2⟩|⟨h1,h2⟩
 ·simp[h1,h2]
 ·constructor
  ·intro h;omega
  ·intro h;rw[h1]at h;cases h
theorem zkE {i:Nat} (hi:i<w.acts.length) (h:jI (qL w) i=none) :
  KG (K2 (qL w)) (vC (K2 (qL w)) i)/\∀j∈vC (K2 (qL w)) i,j<w.acts.length/\jI (qL w) j=none/\vC (K2 (qL w)) j=vC (K2 (qL w)) i:=by
 have hall:=zdH hw hi h
 obtain⟨l,hl,t,ht⟩:=zrl (f:=K2 (qL w)) (i:=i) (n:=w.acts.length) fun k=>(hall k).1
 rw[pM hl ht]
 refine⟨hl,fun j hj=>?_⟩
 obtain⟨s,hs⟩:=hl.from ht hj
 obtain⟨h1,h2⟩:=hall s
 rw[hs]at h1 h2
 exact⟨h1,h2,pM hl (t:=0) hj⟩
end
end Go.Proofs.YtfkcpballfhddaaGreatDoor
end
section
set_option maxRecDepth 100000
namespace Go.Proofs.YtfkcpballfhddaaGreatDoor
open Go Go.Ab
open Classical
variable [Sel] [SelPow] [SelMax]
abbrev zoO:Cfg:=⟨fun _=>false,fun _=>false⟩
theorem CI (w:qQ) (hb:WkB w) (hc:ZE w=false->WkC w):PC Tryz.prog 4 [.av Q7 (j7 w)] (.av .bool (.b true)):=by
 have hfx:=uZ
 have hgr:=uR w hb
 have hew:=JW w
 obtain⟨W,hW⟩:∃W,W=j7 w:=⟨_,rfl⟩
 have hWE:W=.agg [.sl .no (w.files.map qS),.sl .no (w.acts.map zI),.sl .no (strs w.wants),.b w.keep]:=hW
 rw[<-hW]at hgr hew |-
 refine zow Tryz.func4 zoO fun imm0 w0=>?_
 simp (disch:=omega) [zz]
 refine qG hgr rfl rfl (by simp) (by simp[qM,TV.er,hew]) ?_
 by_cases hg:ZE w=true
 ·simp (disch:=omega) [zz,hg]
  refine zcv hfx ?_
  simp (disch:=omega) [zz,Tryz.f4]
 have hg':ZE w=false:=by simpa using hg
 replace hc:=hc hg'
 have hck:=WN w hc
 have hof:=zjr w hc
 have hrg:=zjT w hc
 rw[<-hW]at hck hof hrg
 simp (disch:=omega) [zz,hg']
 refine qG hck rfl rfl (by simp) (by simp[qM,TV.er,hew]) ?_
 by_cases h0:QP w=0
 rotate_left
 ·simp (disch:=omega) [zz,h0]
  refine zcv hfx ?_
  simp (disch:=omega) [zz,Tryz.f4]
 have hw:=hc.ok h0
 have hn8:=P4 hg'
 simp (disch:=omega) [zz,h0,hWE]
 refine AT.loop' (α:=Nat) (fun k=>St.of [(1,.loc 1 []),(23,.av (.int .i64) (.i .i64 w.acts.length)),(24,.av (.int .i64) (.i .i64 k))] [(1,(Q7,W))] (fun _=>0) [])
  (fun k=>k<=w.acts.length) (fun k=>w.acts.length-k) 0 ?_ (by omega) ?_
 ·apply Le.of<;>simp[zA,qF,qJ,hWE]<;>try omega
 rintro k hk KL hN hE
 refine zrd zoO ?_
 by_cases hlt:k<w.acts.length
 rotate_left
 ·have hlt':¬(k:Int)<w.acts.length:=by omega
  simp (disch:=omega) [zz,hlt']
  refine hE _ _ (by simp) ?_
  clear hN hE
  simp (disch:=omega) [zz]
  refine zcv hfx ?_
  simp (disch:=omega) [zz,Tryz.f4]
 have hlt':(k:Int)<w.acts.length:=by omega
 have hofk:=hof k
 have hrgk:=hrg k
 rw[of_at h0 hlt]at hofk
 rw[zjD h0 hlt]at hrgk
 obtain⟨o,ho⟩:∃o,o=jH (qL w) k:=⟨_,rfl⟩
 rw[<-ho]at hofk hrgk
 have h3:=zdE hw k
 rw[<-ho]at h3
 simp (disch:=omega) [zz,hlt']
 refine qG hofk rfl rfl (by simp) (by simp[qM,TV.er,hew]) ?_
 simp (disch:=omega) [zz]
 by_cases hk3:o.kind=3
 rotate_left
 ·rw[if_neg hk3]at hrgk
  refine qG hrgk rfl rfl (by simp) (by simp[qM,TV.er,hew]) ?_
  simp (disch:=omega) [zz,qU,hk3,kJ]
  refine AT.loop' (α:=Nat) (fun _=>St.of [(1,.loc 1 []),(23,.av (.int .i64) (.i .i64 w.acts.length)),(24,.av (.int .i64) (.i .i64 k)),(58,.av (.int .i64) (.i .i64 0)),(59,.av (.int .i64) (.i .i64 0))] [(1,(Q7,W))] (fun _=>0) [])
   (fun _=>True) (fun j=>j) 0 ?_ trivial ?_
  ·apply Le.of<;>simp[zA,qF,qJ,hWE]<;>try omega
  rintro j _ KL2 hN2 hE2
  refine zrd zoO ?_
  simp (disch:=omega) [zz]
  refine hE2 _ _ (by simp) ?_
  clear hN2 hE2
  simp (disch:=omega) [zz]
  refine hN _ (k+1) ?_ (by omega) (by omega)
  apply Le.of<;>simp[zA,qF,qJ,hWE]<;>try omega
 have hl:=h3.1 hk3
 obtain⟨_,hwy⟩:=ziQ hl
 rw[<-ho]at hwy
 obtain⟨hR,hall⟩:=zkE hw hlt hl
 rw[if_pos hk3]at hrgk
 obtain⟨L,hL⟩:∃L,L=vC (K2 (qL w)) k:=⟨_,rfl⟩
 rw[<-hL]at hR hall hrgk
 refine qG hrgk rfl rfl (by simp) (by simp[qM,TV.er,hew]) ?_
 obtain⟨y,L',hyL,hle⟩:=hR.head
 obtain⟨_,_,_,_,_,hnd,_⟩:=hR
 have hLn:0<L.length:=by rw[hyL];simp
 have hLb:L.length<=8:=by
  have:=List.Nodup.length_le_of_subset (l₂:=List.range w.acts.length) hnd fun y hy=>List.mem_range.2 (hall y hy).1
  rw[List.length_range]at this;omega
 have hg0:(L.map w6)[0]?=some (.i .i64 y):=by rw[hyL];rfl
 have hne:¬L=[]:=by rw[hyL];simp
 simp (disch:=omega) [zz,qU,hk3,hwy,kJ,hLn]
 refine AT.loop' (α:=Nat) (fun j=>St.of [(1,.loc 1 []),(6,.av (.slice 3) (.sl .no (L.map w6))),(23,.av (.int .i64) (.i .i64 w.acts.length)),(24,.av (.int .i64) (.i .i64 k)),(57,.av (.slice 3) (.sl .no (L.map w6))),(58,.av (.int .i64) (.i .i64 L.length)),(59,.av (.int .i64) (.i .i64 j))] [(1,(Q7,W))] (fun _=>0) [])
  (fun j=>j<=L.length) (fun j=>L.length-j) 0 ?_ (by omega) ?_
 ·apply Le.of<;>simp[zA,qF,qJ,hWE]<;>try omega
 rintro j hj KL2 hN2 hE2
 refine zrd zoO ?_
 by_cases hjl:j<L.length
 rotate_left
 ·have hjl':¬(j:Int)<L.length:=by omega
  simp (disch:=omega) [zz,hjl']
  refine hE2 _ _ (by simp) ?_
  clear hN2 hE2
  simp (disch:=omega) [zz]
  refine hN _ (k+1) ?_ (by omega) (by omega)
  apply Le.of<;>simp[zA,qF,qJ,hWE]<;>try omega
 have hjl':(j:Int)<L.length:=by omega
 have hgj:=jY w6 L j hjl
 have hmem:=List.getElem_mem hjl
 have hdj:∀m (h:m<L.length),m<j->¬L[m]=L[j]:=fun m h hm e=>by
  have:=List.pairwise_iff_getElem.1 hnd m j h hjl hm
  exact this e
 obtain⟨e,he⟩:∃e,e=L[j]:=⟨_,rfl⟩
 rw[<-he]at hgj hmem hdj
 obtain⟨he1,he2,he3⟩:=hall e hmem
 have hye:=hle e hmem
 have hofe:=hof e
 have hrge:=hrg e
 rw[of_at h0 he1]at hofe
 rw[zjD h0 he1,if_pos ((zdE hw e).2 he2),he3]at hrge
 have hke:=(ziQ he2).1
 obtain⟨o2,ho2⟩:∃o2,o2=jH (qL w) e:=⟨_,rfl⟩
 rw[<-ho2]at hofe hke
 have hgj2:(L.map w6)[j]?=some (.i .i64 (e:Int)):=hgj
 have hye':¬(e:Int)<y:=by omega
 simp (disch:=omega) [zz,hjl',hgj2]
 refine qG hofe rfl rfl (by simp) (by simp[qM,TV.er,AV.er,hew]) ?_
 simp (disch:=omega) [zz]
 refine qG hrge rfl rfl (by simp) (by simp[qM,TV.er,AV.er,hew]) ?_
 simp (disch:=omega) [zz,qU,hke,kJ,hg0,hLn,hye']
 refine AT.loop' (α:=Nat) (fun m=>St.of [(1,.loc 1 []),(6,.av (.slice 3) (.sl .no (L.map w6))),(7,.av (.int .i64) (.i .i64 j)),(8,.av (.int .i64) (.i .i64 e)),(11,.av (.slice 3) (.sl .no (L.map w6))),(23,.av (.int .i64) (.i .i64 w.acts.length)),(24,.av (.int .i64) (.i .i64 k)),(57,.av (.slice 3) (.sl .no (L.map w6))),(58,.av (.int .i64) (.i .i64 L.length)),(59,.av (.int .i64) (.i .i64 j)),(95,.av (.int .i64) (.i .i64 L.length)),(96,.av (.int .i64) (.i .i64 m))] [(1,(Q7,W))] (fun _=>0) [])
  (fun m=>m<=L.length) (fun m=>L.length-m) 0 ?_ (by omega) ?_
 ·apply Le.of<;>simp[zA,qF,qJ,hWE]<;>try omega
 rintro m hm KL3 hN3 hE3
 refine zrd zoO ?_
 by_cases hml:m<L.length
 rotate_left
 ·have hml':¬(m:Int)<L.length:=by omega
  simp (disch:=omega) [zz,hml']
  refine hE3 _ _ (by simp) ?_
  clear hN3 hE3
  simp (disch:=omega) [zz]
  refine hN2 _ (j+1) ?_ (by omega) (by omega)
  apply Le.of<;>simp[zA,qF,qJ,hWE]<;>try omega
 have hml':(m:Int)<L.length:=by omega
 have hgm:(L.map w6)[m]?=some (.i .i64 (L[m]:Nat)):=jY w6 L m hml
 have hgm2:(L.map w6)[m]'(by simpa using hml)=.i .i64 (L[m]:Nat):=by simp[w6]
 have hdm:=hdj m hml
 generalize L[m]=q at *
 by_cases hmj:m<j
 ·have hmj':(m:Int)<j:=by omega
  have hqe:¬(q:Int)=e:=by
   have:=hdm hmj
   omega
  simp (disch:=omega) [zz,hml',hgm,hgm2,hmj',hqe]
  (repeat with_reducible refine om ?_)
  refine hN3 _ (m+1) ?_ (by omega) (by omega)
  apply Le.of<;>simp[zA,qF,qJ,hWE]<;>try omega
 ·have hmj':¬(m:Int)<j:=by omega
  simp (disch:=omega) [zz,hml',hgm,hgm2,hmj']
  (repeat with_reducible refine om ?_)
  refine hN3 _ (m+1) ?_ (by omega) (by omega)
  apply Le.of<;>simp[zA,qF,qJ,hWE]<;>try omega
end Go.Proofs.YtfkcpballfhddaaGreatDoor
end
