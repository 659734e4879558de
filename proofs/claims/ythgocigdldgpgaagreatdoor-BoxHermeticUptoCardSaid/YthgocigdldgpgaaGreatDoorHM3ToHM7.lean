/- Does a pattern match a path? The reference. No condition beyond each theorem's own. -/
import Derived.Test.YthgocigdldgpgaaGreatDoorHM0ToPM0
import Derived.Test.YthgocigdldgpgaaGreatDoorBL1ToBR1
import Derived.Test.YthgocigdldgpgaaGreatDoorBE1ToPD
set_option linter.unusedSimpArgs false
set_option linter.unusedVariables false
set_option linter.unusedSectionVars false
section
set_option maxRecDepth 100000
namespace Go.Proofs.YthgocigdldgpgaaGreatDoor
open Go Go.Ab
open Classical
variable [Sel] [SelPow] [SelMax]
set_option maxHeartbeats 8000000 in
theorem zgK (p s:Txt) (hp:p.length≤1000000) (hs:s.length≤1000000):PC Tryz.prog 55 [.av .str (.s p),.av .str (.s s)] (.av .bool (.b (wL p s))):=by
 refine PC.of (q7.sub (R:=fun r _=>r=.av .bool (.b (wL p s))) ?_ fun r H' h _=>⟨[],HSub.of_sub (List.nil_sublist _),h⟩)
 refine q7.of_vc laid mixed Tryz.func55 rfl cf0 (by kernel_rfl) (by simp[Tryz.ntmps55]) fun imm0 w0=>?_
 (simp (maxSteps:=2000000) (disch:=first|omega|assumption) [zz])
 refine qL (ziX p hp) rfl rfl (by simp) (by simp[qS,TV.er,AV.er]) ?_
 cases hpv:PZ p
 ·have hr:wL p s=false:=by simp[wL,hpv]
  (simp (maxSteps:=2000000) (disch:=first|omega|assumption) [zz,Tryz.f55,hr])
 (simp (maxSteps:=2000000) (disch:=first|omega|assumption) [zz])
 try (repeat with_reducible refine om ?_)
 refine qL (zl8 s (by omega)) rfl rfl (by simp) (by simp[qS,TV.er,AV.er]) ?_
 cases hsv:yV s
 ·have hr:wL p s=false:=by simp[wL,hsv]
  (simp (maxSteps:=2000000) (disch:=first|omega|assumption) [zz,Tryz.f55,hr])
 obtain⟨ps,hps⟩:∃ps,ps=qT 47 p:=⟨_,rfl⟩
 obtain⟨ns,hns⟩:∃ns,ns=qT 47 s:=⟨_,rfl⟩
 have hmv:wL p s=kE ps ns:=by simp[wL,hpv,hsv,←hps,←hns]
 have hpl:∀x∈ps,x.length≤p.length:=by rw[hps];exact fun x hx=>kU 47 p x hx
 have hnl:∀x∈ns,x.length≤s.length:=by rw[hns];exact fun x hx=>kU 47 s x hx
 have hpn:=QQ 47 p
 have hnn:=QQ 47 s
 rw[←hps]at hpn
 rw[←hns]at hnn
 (simp (maxSteps:=2000000) (disch:=first|omega|assumption) [zz])
 refine qL (u9 p (by omega)) rfl rfl (by simp) (by simp[qS,TV.er,AV.er]) ?_
 rw[←hps]
 (simp (maxSteps:=2000000) (disch:=first|omega|assumption) [zz])
 refine qL (u9 s (by omega)) rfl rfl (by simp) (by simp[qS,TV.er,AV.er]) ?_
 rw[←hns]
 obtain⟨m,hm⟩:∃m,m=ns.length+1:=⟨_,rfl⟩
 have hmI:(ns.length:Int)+1=m:=by omega
 have hmn:ns.length+1=m:=hm.symm
 have hm0:0<m:=by omega
 have hm0':(0:Int)<m:=by omega
 (simp (maxSteps:=2000000) (disch:=first|omega|assumption) [zz,qX,hmI,hmn,hm0,hm0',xF])
 refine⟨by omega,by omega,?_⟩
 intro b0
 refine AT.loopV (α:=Nat × Nat × (Nat→Bool)) (fun x ver=>St.of [(5,.av (.slice 9) (.sl .no (strs ps))),(6,.av (.slice 9) (.sl .no (strs ns))),(7,.av (.slice 4) (.msl x.2.1 4 0 m m)),(30,.av (.slice 9) (.sl .no (strs ps))),(31,.av (.int .i64) (.i .i64 ps.length)),(32,.av (.int .i64) (.i .i64 x.1))] [] ver [(x.2.1,j9 m m x.2.2)])
  (fun x=>x.1≤ps.length∧(kE ps ns=true↔Led (kE (ps.drop x.1)) ns x.2.2)) (fun x=>ps.length-x.1) (0,b0,fun k=>decide (k=0)) ?_ ?_ ?_
 ·refine Le.of ?_ ?_ ?_ ?_ ?_<;>simp[qU,qG,qO,qH,qP,qK,qF,qI,qJ,qN,j9,xF]<;>try omega
 ·exact⟨by omega,by simpa using(zd6 (kE ps) ns).symm⟩
 rintro⟨i,b,at_⟩ ver ⟨hi,hled⟩ KL hN hE
 simp only at hi hled hN
 refine qM (cf:=cf0) laid mixed _ _ _ (by kernel_rfl) ?_
 by_cases hlt:i<ps.length
 rotate_left
 ·have hlt':¬(i:Int)<ps.length:=by omega
  rw[List.drop_of_length_le (by omega),zhq]at hled
  have hr:wL p s=at_ ns.length:=hmv.trans (Bool.eq_iff_iff.2 hled)
  have hg:=Z9 at_ (show ns.length<m by omega) (show ns.length<m by omega)
  have hsm:ns.length<m:=by omega
  have hsm':(ns.length:Int)<m:=by omega
  (simp (maxSteps:=2000000) (disch:=first|omega|assumption) [zz,hlt'])
  refine hE _ _ (by simp) ?_
  (simp (maxSteps:=2000000) (disch:=first|omega|assumption) [zz,Tryz.f55,j9,jN,qX,hg,hr,hsm,hsm'])
 have hlt':(i:Int)<ps.length:=by omega
 obtain⟨x,hx⟩:∃x,x=ps[i]:=⟨_,rfl⟩
 have hgx:(strs ps)[i]?=some (.s x):=by rw[yH ps i hlt,hx]
 have hxl:x.length≤1000000:=by have:=hpl x (by rw[hx];exact List.getElem_mem _);omega
 rw[List.drop_eq_getElem_cons hlt,←hx,ziO]at hled
 (simp (maxSteps:=2000000) (disch:=first|omega|assumption) [zz,hlt',hlt,hgx,qX,hmI,hmn,j9])
 refine⟨by omega,by omega,?_⟩
 intro b7 hb7
 have hb7':¬b=b7:=fun e=>hb7 e.symm
 obtain⟨f,hf⟩:∃f,f=zaa x (ps.drop (i+1)).isEmpty ns at_:=⟨_,rfl⟩
 rw[←hf]at hled
 refine AT.loopV (α:=Nat) (fun k ver=>St.of [(5,.av (.slice 9) (.sl .no (strs ps))),(6,.av (.slice 9) (.sl .no (strs ns))),(7,.av (.slice 4) (.msl b 4 0 m m)),(8,.av (.int .i64) (.i .i64 i)),(9,.av .str (.s x)),(30,.av (.slice 9) (.sl .no (strs ps))),(31,.av (.int .i64) (.i .i64 ps.length)),(32,.av (.int .i64) (.i .i64 i)),(10,.av (.slice 4) (.msl b7 4 0 m m)),(11,.av (.int .i64) (.i .i64 k))] [] ver [(b7,j9 m k f),(b,j9 m m at_)])
  (fun k=>k≤m) (fun k=>m-k) 0 ?_ ?_ ?_
 ·refine Le.of ?_ ?_ ?_ ?_ ?_<;>simp[qU,qG,qO,qH,qP,qK,qF,qI,qJ,qN,j9,zaF m f]<;>try omega
 ·omega
 rintro k ver2 hk KL2 hN2 hE2
 refine qM (cf:=cf0) laid mixed _ _ _ (by kernel_rfl) ?_
 by_cases hkm:k<m
 rotate_left
 ·have hkm':¬(k:Int)≤ns.length:=by omega
  have hke:k=m:=by omega
  subst hke
  (simp (maxSteps:=2000000) (disch:=first|omega|assumption) [zz,qX,hkm'])
  refine hE2 _ _ (by simp) ?_
  (simp (maxSteps:=2000000) (disch:=first|omega|assumption) [zz])
  refine hN _ (i+1,b7,f) ?_ ⟨by omega,hled⟩ (by simp only;omega)
  refine Le.of ?_ ?_ ?_ ?_ ?_<;>simp[qU,qG,qO,qH,qP,qK,qF,qI,qJ,qN,j9]<;>try omega
 have hkm':(k:Int)<m:=by omega
 have hks:(k:Int)≤ns.length:=by omega
 have hgA:=Z9 at_ hkm hkm
 have j1:∀v,f k=v→(Q3 m k f).set k (.b v)=Q3 m (k+1) f:=fun v h=>zcZ h
 by_cases h0:x=[42,42]
 ·by_cases hla:i+1=ps.length
  ·have hla':(i:Int)=(ps.length:Int)-1:=by omega
   have hfs:f=cA at_:=by
    rw[hf,zaa,if_pos h0,List.drop_of_length_le (by omega)];rfl
   cases k with
   | zero =>
    have hz:(0:Int)≤ns.length:=by omega
    have hst:=j1 false (by rw[hfs];rfl)
    (simp (maxSteps:=2000000) (disch:=first|omega|assumption) [zz,qX,j9,jN,h0,hla',hks,hkm,hkm',hz,hm0,hm0',hst,hb7,hb7'])
    try (repeat with_reducible refine om ?_)
    refine hN2 _ 1 ?_ (by omega) (by omega)
    refine Le.of ?_ ?_ ?_ ?_ ?_<;>simp[qU,qG,qO,qH,qP,qK,qF,qI,qJ,qN,j9,hst,h0]<;>try omega
   | succ j =>
    have hj:j<m:=by omega
    have hj':(j:Int)<m:=by omega
    have hj1:(j:Int)+1<m:=by omega
    have hj2:(j:Int)+1≤ns.length:=by omega
    have hj3:(j:Int)+1-1=j:=by omega
    have hj4:(0:Int)<(j:Int)+1:=by omega
    have hj5:(0:Int)≤(j:Int)+1:=by omega
    have hgJ:=Z9 at_ hj hj
    have hgB:=Z9 f hj (show j<j+1 by omega)
    have hst:=j1 (at_ j||f j) (by rw[hfs];rfl)
    cases ha:at_ j
    ·rw[ha]at hgJ hst
     rw[Bool.false_or]at hst
     cases hb:f j
     ·rw[hb]at hgB hst
      (simp (maxSteps:=2000000) (disch:=first|omega|assumption) [zz,qX,j9,jN,h0,hla',hks,hkm,hkm',hj,hj',hj1,hj2,hj3,hj4,hj5,hgJ,hgB,hst,hb7,hb7'])
      try (repeat with_reducible refine om ?_)
      refine hN2 _ (j+1+1) ?_ (by omega) (by omega)
      refine Le.of ?_ ?_ ?_ ?_ ?_<;>simp[qU,qG,qO,qH,qP,qK,qF,qI,qJ,qN,j9,hst,h0]<;>try omega
     ·rw[hb]at hgB hst
      (simp (maxSteps:=2000000) (disch:=first|omega|assumption) [zz,qX,j9,jN,h0,hla',hks,hkm,hkm',hj,hj',hj1,hj2,hj3,hj4,hj5,hgJ,hgB,hst,hb7,hb7'])
      try (repeat with_reducible refine om ?_)
      refine hN2 _ (j+1+1) ?_ (by omega) (by omega)
      refine Le.of ?_ ?_ ?_ ?_ ?_<;>simp[qU,qG,qO,qH,qP,qK,qF,qI,qJ,qN,j9,hst,h0]<;>try omega
    ·rw[ha]at hgJ hst
     rw[Bool.true_or]at hst
     (simp (maxSteps:=2000000) (disch:=first|omega|assumption) [zz,qX,j9,jN,h0,hla',hks,hkm,hkm',hj,hj',hj1,hj2,hj3,hj4,hj5,hgJ,hst,hb7,hb7'])
     try (repeat with_reducible refine om ?_)
     refine hN2 _ (j+1+1) ?_ (by omega) (by omega)
     refine Le.of ?_ ?_ ?_ ?_ ?_<;>simp[qU,qG,qO,qH,qP,qK,qF,qI,qJ,qN,j9,hst,h0]<;>try omega
  ·have hla':¬(i:Int)=(ps.length:Int)-1:=by omega
   have hfs:f=VK at_:=by
    have:(ps.drop (i+1)).isEmpty=false:=by
     rw[List.drop_eq_getElem_cons (show i+1<ps.length by omega)];rfl
    rw[hf,zaa,if_pos h0,this];rfl
   cases k with
   | zero =>
    have hz:(0:Int)≤ns.length:=by omega
    have hst:=j1 (at_ 0) (by rw[hfs];rfl)
    cases ha:at_ 0
    ·rw[ha]at hgA hst
     (simp (maxSteps:=2000000) (disch:=first|omega|assumption) [zz,qX,j9,jN,h0,hla',hks,hkm,hkm',hz,hm0,hm0',hgA,hst,hb7,hb7'])
     try (repeat with_reducible refine om ?_)
     refine hN2 _ 1 ?_ (by omega) (by omega)
     refine Le.of ?_ ?_ ?_ ?_ ?_<;>simp[qU,qG,qO,qH,qP,qK,qF,qI,qJ,qN,j9,hst,h0]<;>try omega
    ·rw[ha]at hgA hst
     (simp (maxSteps:=2000000) (disch:=first|omega|assumption) [zz,qX,j9,jN,h0,hla',hks,hkm,hkm',hz,hm0,hm0',hgA,hst,hb7,hb7'])
     try (repeat with_reducible refine om ?_)
     refine hN2 _ 1 ?_ (by omega) (by omega)
     refine Le.of ?_ ?_ ?_ ?_ ?_<;>simp[qU,qG,qO,qH,qP,qK,qF,qI,qJ,qN,j9,hst,h0]<;>try omega
   | succ j =>
    have hj:j<m:=by omega
    have hj':(j:Int)<m:=by omega
    have hj1:(j:Int)+1<m:=by omega
    have hj2:(j:Int)+1≤ns.length:=by omega
    have hj3:(j:Int)+1-1=j:=by omega
    have hj4:(0:Int)<(j:Int)+1:=by omega
    have hj5:(0:Int)≤(j:Int)+1:=by omega
    have hgB:=Z9 f hj (show j<j+1 by omega)
    have hst:=j1 (at_ (j+1)||f j) (by rw[hfs];rfl)
    cases ha:at_ (j+1)
    ·rw[ha]at hgA hst
     rw[Bool.false_or]at hst
     cases hb:f j
     ·rw[hb]at hgB hst
      (simp (maxSteps:=2000000) (disch:=first|omega|assumption) [zz,qX,j9,jN,h0,hla',hks,hkm,hkm',hj,hj',hj1,hj2,hj3,hj4,hj5,hgA,hgB,hst,hb7,hb7'])
      try (repeat with_reducible refine om ?_)
      refine hN2 _ (j+1+1) ?_ (by omega) (by omega)
      refine Le.of ?_ ?_ ?_ ?_ ?_<;>simp[qU,qG,qO,qH,qP,qK,qF,qI,qJ,qN,j9,hst,h0]<;>try omega
     ·rw[hb]at hgB hst
      (simp (maxSteps:=2000000) (disch:=first|omega|assumption) [zz,qX,j9,jN,h0,hla',hks,hkm,hkm',hj,hj',hj1,hj2,hj3,hj4,hj5,hgA,hgB,hst,hb7,hb7'])
      try (repeat with_reducible refine om ?_)
      refine hN2 _ (j+1+1) ?_ (by omega) (by omega)
      refine Le.of ?_ ?_ ?_ ?_ ?_<;>simp[qU,qG,qO,qH,qP,qK,qF,qI,qJ,qN,j9,hst,h0]<;>try omega
    ·rw[ha]at hgA hst
     rw[Bool.true_or]at hst
     (simp (maxSteps:=2000000) (disch:=first|omega|assumption) [zz,qX,j9,jN,h0,hla',hks,hkm,hkm',hj,hj',hj1,hj2,hj3,hj4,hj5,hgA,hst,hb7,hb7'])
     try (repeat with_reducible refine om ?_)
     refine hN2 _ (j+1+1) ?_ (by omega) (by omega)
     refine Le.of ?_ ?_ ?_ ?_ ?_<;>simp[qU,qG,qO,qH,qP,qK,qF,qI,qJ,qN,j9,hst,h0]<;>try omega
 have hfl:f=zbv (wV x) ns at_:=by rw[hf,zaa,if_neg h0]
 cases k with
 | zero =>
  have hz:(0:Int)≤ns.length:=by omega
  have hst:=j1 false (by rw[hfl];rfl)
  (simp (maxSteps:=2000000) (disch:=first|omega|assumption) [zz,qX,j9,jN,h0,hks,hkm,hkm',hz,hm0,hm0',hst,hb7,hb7'])
  try (repeat with_reducible refine om ?_)
  refine hN2 _ 1 ?_ (by omega) (by omega)
  refine Le.of ?_ ?_ ?_ ?_ ?_<;>simp[qU,qG,qO,qH,qP,qK,qF,qI,qJ,qN,j9,hst]<;>try omega
 | succ j =>
  have hj:j<m:=by omega
  have hjs:j<ns.length:=by omega
  have hjs':(j:Int)<ns.length:=by omega
  have hj':(j:Int)<m:=by omega
  have hj1:(j:Int)+1<m:=by omega
  have hj2:(j:Int)+1≤ns.length:=by omega
  have hj3:(j:Int)+1-1=j:=by omega
  have hj4:(0:Int)<(j:Int)+1:=by omega
  have hj5:(0:Int)≤(j:Int)+1:=by omega
  have hgJ:=Z9 at_ hj hj
  obtain⟨y,hy⟩:∃y,y=ns[j]:=⟨_,rfl⟩
  have hgy:(strs ns)[j]?=some (.s y):=by rw[yH ns j hjs,hy]
  have hyl:y.length≤1000000:=by have:=hnl y (by rw[hy];exact List.getElem_mem _);omega
  have hfk:f (j+1)=(at_ j&&wV x y):=by
   rw[hfl];simp only[zbv,List.getElem?_eq_getElem hjs,←hy]
  cases ha:at_ j
  ·rw[ha]at hgJ hfk
   have hst:=j1 false (by rw[hfk];rfl)
   (simp (maxSteps:=2000000) (disch:=first|omega|assumption) [zz,qX,j9,jN,h0,hks,hkm,hkm',hj,hj',hj1,hj2,hj3,hj4,hj5,hgJ,hst,hb7,hb7'])
   try (repeat with_reducible refine om ?_)
   refine hN2 _ (j+1+1) ?_ (by omega) (by omega)
   refine Le.of ?_ ?_ ?_ ?_ ?_<;>simp[qU,qG,qO,qH,qP,qK,qF,qI,qJ,qN,j9,hst]<;>try omega
  rw[ha,Bool.true_and]at hfk
  rw[ha]at hgJ
  have hst:=j1 _ hfk
  (simp (maxSteps:=2000000) (disch:=first|omega|assumption) [zz,qX,j9,jN,h0,hgy,hjs,hjs',hks,hkm,hkm',hj,hj',hj1,hj2,hj3,hj4,hj5,hgJ,hb7,hb7'])
  try (repeat with_reducible refine om ?_)
  refine qL (zlo x y (by omega) (by omega)) rfl rfl (by simp) (by simp[qS,TV.er,AV.er]) ?_
  (simp (maxSteps:=2000000) (disch:=first|omega|assumption) [zz,qX,j9,jN,h0,hgy,hjs,hjs',hks,hkm,hkm',hj,hj',hj1,hj2,hj3,hj4,hj5,hgJ,hst,hb7,hb7'])
  try (repeat with_reducible refine om ?_)
  refine hN2 _ (j+1+1) ?_ (by omega) (by omega)
  refine Le.of ?_ ?_ ?_ ?_ ?_<;>simp[qU,qG,qO,qH,qP,qK,qF,qI,qJ,qN,j9,hst]<;>try omega
theorem zcP (a:xW) (p:Txt) (hp:p.length≤1000000) (h1:a.ins.length≤1000000) (h2:a.asks.length≤1000000) (h3:a.outs.length≤1000000) (h4:∀x∈a.asks,x.length≤1000000) :
  PC Tryz.prog 21 [.av UI (kT a),.av .str (.s p)] (.av .bool (.b (jI a p))):=by
 obtain⟨pkg,name,tool,env,ins,asks,outs⟩:=a
 simp only at h1 h2 h3 h4
 have hmo:jI ⟨pkg,name,tool,env,ins,asks,outs⟩ p=(!decide (p∈outs)&&(decide (p∈ins)||asks.any fun a=>wL a p)):=rfl
 refine PC.of <| q7.of_vc laid mixed Tryz.func21 rfl cf0 (by kernel_rfl) (by simp[Tryz.ntmps21]) fun imm0 w0=>?_
 (simp (maxSteps:=2000000) (disch:=first|omega|assumption) [zz,-List.reduceReplicate,kT])
 refine qL (zcM p outs (by omega)) rfl rfl (by simp) (by simp[qS,TV.er,AV.er]) ?_
 by_cases ho:p∈outs
 ·have hr:jI ⟨pkg,name,tool,env,ins,asks,outs⟩ p=false:=by rw[hmo];simp[ho]
  (simp (maxSteps:=2000000) (disch:=first|omega|assumption) [zz,-List.reduceReplicate,ho,hr,Tryz.f21])
 (simp (maxSteps:=2000000) (disch:=first|omega|assumption) [zz,-List.reduceReplicate,ho])
 refine qL (zcM p ins (by omega)) rfl rfl (by simp) (by simp[qS,TV.er,AV.er]) ?_
 by_cases hi:p∈ins
 ·have hr:jI ⟨pkg,name,tool,env,ins,asks,outs⟩ p=true:=by rw[hmo];simp[ho,hi]
  (simp (maxSteps:=2000000) (disch:=first|omega|assumption) [zz,-List.reduceReplicate,hi,hr,Tryz.f21])
 have hma:jI ⟨pkg,name,tool,env,ins,asks,outs⟩ p=asks.any fun a=>wL a p:=by rw[hmo];simp[ho,hi]
 (simp (maxSteps:=2000000) (disch:=first|omega|assumption) [zz,-List.reduceReplicate,hi,qX])
 refine AT.loop' (α:=Nat) (fun k=>St.of [(1,.av .str (.s p)),(16,.av (.slice 9) (.sl .no (strs asks))),(17,.av (.int .i64) (.i .i64 asks.length)),(18,.av (.int .i64) (.i .i64 k))] [] (fun _=>0) [])
  (fun k=>k≤asks.length∧(asks.take k).any (fun a=>wL a p)=false) (fun k=>asks.length-k) 0 ?_ ?_ ?_
 ·refine Le.of ?_ ?_ ?_ ?_ ?_<;>simp[qU,qG,qX]<;>try omega
 ·simp
 rintro k ⟨hk,hn⟩ KL hN hE
 refine qM (cf:=cf0) laid mixed _ _ _ (by kernel_rfl) ?_
 by_cases hlt:k<asks.length
 ·have hlt':(k:Int)<asks.length:=by omega
  obtain⟨x,hx⟩:∃x,x=asks[k]:=⟨_,rfl⟩
  have hgx:(strs asks)[k]?=some (.s x):=by rw[yH asks k hlt,hx]
  have hxm:x∈asks:=by rw[hx];exact List.getElem_mem _
  (simp (maxSteps:=2000000) (disch:=first|omega|assumption) [zz,-List.reduceReplicate,hlt',qX,hgx])
  refine qL (zgK x p (h4 x hxm) hp) rfl rfl (by simp) (by simp[qS,TV.er,AV.er]) ?_
  cases hb:wL x p
  ·(simp (maxSteps:=2000000) (disch:=first|omega|assumption) [zz,-List.reduceReplicate])
   refine hN _ (k+1) ?_ ⟨by omega,by rw[List.take_succ_eq_append_getElem hlt,List.any_append,hn,←hx];simp[hb]⟩ (by omega)
   refine Le.of ?_ ?_ ?_ ?_ ?_<;>simp[qU,qG,qX]<;>try omega
  ·have hr:jI ⟨pkg,name,tool,env,ins,asks,outs⟩ p=true:=by
    rw[hma];exact List.any_eq_true.2 ⟨x,hxm,hb⟩
   (simp (maxSteps:=2000000) (disch:=first|omega|assumption) [zz,-List.reduceReplicate])
   refine hE _ _ (by simp) ?_
   (simp (maxSteps:=2000000) (disch:=first|omega|assumption) [zz,-List.reduceReplicate,Tryz.f21,hr])
 ·have hlt':¬(k:Int)<asks.length:=by omega
  rw[List.take_of_length_le (by omega)]at hn
  have hr:jI ⟨pkg,name,tool,env,ins,asks,outs⟩ p=false:=by rw[hma,hn]
  (simp (maxSteps:=2000000) (disch:=first|omega|assumption) [zz,-List.reduceReplicate,hlt',qX])
  refine hE _ _ (by simp) ?_
  (simp (maxSteps:=2000000) (disch:=first|omega|assumption) [zz,-List.reduceReplicate,Tryz.f21,hr])
end Go.Proofs.YthgocigdldgpgaaGreatDoor
end
section
set_option maxRecDepth 100000
namespace Go.Proofs.YthgocigdldgpgaaGreatDoor
open Go Go.Ab
open Classical
variable [Sel] [SelPow] [SelMax]
def tkT (d:Nat):Nat→Tok
 | 0=>.full
 | k+1=>.own d (k+1)
def K5 (l:List Txt):List Txt:=l.reverse++l.take 1
theorem zjR (l:List Txt) (k:Nat) (h:k<l.length):strs (l.reverse.take (k+1))=strs (l.reverse.take k)++[AV.s l[l.length-1-k]]:=by
 have h':k<l.reverse.length:=by rw[List.length_reverse];exact h
 rw[List.take_succ_eq_append_getElem h',List.getElem_reverse,Z6];rfl
abbrev zoX:Cfg:=⟨fun _=>false,fun _=>false⟩
set_option maxHeartbeats 8000000 in
theorem zc7 (l:List Txt) (hl:l.length≤1000000):PC Tryz.prog 22 [.av (.slice 9) (.sl .no (strs l))] (.av (.slice 9) (.sl .no (strs (K5 l)))):=by
 refine PC.of <| q7.of_vc laid mixed Tryz.func22 rfl zoX (by kernel_rfl) (by simp[Tryz.ntmps22]) fun imm0 w0=>?_
 (simp (maxSteps:=2000000) (disch:=first|omega|assumption) [zz,qX])
 refine AT.loop' (α:=Nat) (fun k=>St.of [(0,.av (.slice 9) (.sl .no (strs l))),(3,.av (.slice 9) (.sl (tkT 18 k) (strs (l.reverse.take k)))),(4,.av (.int .i64) (.i .i64 ((l.length:Int)-1-k)))] [] (fun j=>if j=18 then k else 0) [])
  (fun k=>k≤l.length) (fun k=>l.length-k) 0 ?_ ?_ ?_
 ·refine Le.of ?_ ?_ ?_ ?_ ?_<;>simp[qU,qG,qO,qH,qP,qK,qF,qI,qJ,qN,tkT,strs]<;>try omega
 ·omega
 rintro k hk KL hN hE
 refine qM (cf:=zoX) laid mixed _ _ _ (by kernel_rfl) ?_
 by_cases hlt:k<l.length
 ·obtain⟨i,hi⟩:∃i,i=l.length-1-k:=⟨_,rfl⟩
  have hiI:(l.length:Int)-1-k=i:=by omega
  have hi0:(0:Int)≤i:=by omega
  have hil:i<l.length:=by omega
  have hil':(i:Int)<l.length:=by omega
  have hg:=yH l i hil
  have hst:=zjR l k hlt
  have he:l[l.length-1-k]=l[i]:=by simp only[hi]
  rw[he]at hst
  have htl:(l.reverse.take k).length=k:=by rw[List.length_take,List.length_reverse];omega
  obtain⟨x,hx⟩:∃x,x=l[i]:=⟨_,rfl⟩
  rw[←hx]at hst hg
  rw[hiI]
  cases k with
  | zero =>
   (simp (maxSteps:=2000000) (disch:=first|omega|assumption) [zz,hi0,hil,hil',hg,qX,tkT])
   (simp (maxSteps:=2000000) (disch:=first|omega|assumption) [zz,wB])
   (repeat with_reducible refine om ?_)
   refine hN _ 1 ?_ (by omega) (by omega)
   refine Le.of ?_ ?_ ?_ ?_ ?_<;>simp[qU,qG,qO,qH,qP,qK,qF,qI,qJ,qN,tkT,hst]<;>try omega
  | succ k =>
   (simp (maxSteps:=2000000) (disch:=first|omega|assumption) [zz,hi0,hil,hil',hg,qX,tkT,htl])
   (simp (maxSteps:=2000000) (disch:=first|omega|assumption) [zz,wB,htl])
   (repeat with_reducible refine om ?_)
   refine hN _ (k+2) ?_ (by omega) (by omega)
   refine Le.of ?_ ?_ ?_ ?_ ?_<;>simp[qU,qG,qO,qH,qP,qK,qF,qI,qJ,qN,tkT,hst]<;>try omega
   all_goals (intro j;by_cases hj:j=18<;>simp[hj])
 have hkn:k=l.length:=by omega
 have hkk:(l.length:Int)-1-k=-1:=by omega
 have htl:l.reverse.take k=l.reverse:=List.take_of_length_le (by rw[List.length_reverse];omega)
 rw[hkk,htl]
 clear hkk htl
 (simp (maxSteps:=2000000) (disch:=first|omega|assumption) [zz,qX])
 refine hE _ _ (by simp) ?_
 clear hN hE
 cases l with
 | nil =>
  have hk0:k=0:=by simpa using hkn
  subst hk0
  (simp (maxSteps:=2000000) (disch:=first|omega|assumption) [zz,Tryz.f22,tkT,strs,K5])
 | cons a r =>
  have hg:(strs (a::r))[0]?=some (.s a):=rfl
  obtain⟨m,hm⟩:∃m,m=(a::r).reverse:=⟨_,rfl⟩
  have hml:m.length=k:=by rw[hm,List.length_reverse,hkn]
  have htv:K5 (a::r)=m++[a]:=by rw[hm];rfl
  have hsm:strs m++[AV.s a]=strs (m++[a]):=by rw[Z6];rfl
  rw[htv]
  obtain⟨q,hq⟩:∃q,q=a::r:=⟨_,rfl⟩
  have hq0:0<q.length:=by rw[hq];simp
  have hq0':(0:Int)<q.length:=by omega
  have hl2:q.length≤1000000:=by rw[hq];exact hl
  rw[←hm]
  rw[←hq]at hg hkn ⊢
  cases k with
  | zero=>omega
  | succ k =>
   (simp (maxSteps:=2000000) (disch:=first|omega|assumption) [zz,qX,hq0,hq0',hg,tkT])
   (simp (maxSteps:=2000000) (disch:=first|omega|assumption) [zz,wB,qX,hml,hsm,Tryz.f22])
   omega
theorem YF (l:List Txt) (p:Txt):p∈l↔p∈K5 l:=by
 simp only[K5,List.mem_append,List.mem_reverse]
 exact⟨.inl,fun h=>h.elim id (List.mem_of_mem_take)⟩
theorem gI (l:List Txt):(K5 l).length≤l.length+1:=by
 simp only[K5,List.length_append,List.length_reverse,List.length_take];omega
noncomputable def dF (rs:List Txt) (known others:List KnV):List KnV:=known.filter (fun k=>decide (k.path∈rs))++others.filter fun k=>!decide (k.path∈rs)
theorem zej (rs:List Txt) (known others:List KnV) {p:Txt} (hp:p∈rs):zQ (dF rs known others) p=zQ known p:=by
 have e1:(known.filter fun k=>decide (k.path∈rs)).find? (fun k=>decide (k.path=p))=known.find? fun k=>decide (k.path=p):=by
  rw[List.find?_filter]
  refine congrArg (fun f=>known.find? f) (funext fun k=>?_)
  by_cases h:k.path=p
  ·simp[h,hp]
  ·simp[h]
 have e2:(others.filter fun k=>!decide (k.path∈rs)).find? (fun k=>decide (k.path=p))=none:=by
  rw[List.find?_eq_none]
  intro k hk
  obtain⟨_,h⟩:=List.mem_filter.1 hk
  intro he
  have:k.path=p:=by simpa using he
  rw[this]at h
  simp[hp]at h
 unfold zQ dF
 rw[List.find?_append,e1,e2]
 simp
theorem zf8 {t:Txt} {cs:List CmdV} (hcs:j7 t=.ok cs) {env:List (Txt × Txt)} {outs:List Txt} {may:Txt→Bool} {known:List KnV} (hd:∀k∈known,k.data.length≤65536) :
  ∃b' rs,goL known 600 (ZR env outs may cs)=some b'∧b'.reads.map (·.path)=rs∧rs.Nodup∧(∀p∈rs,may p=true∧∃k∈known,k.path=p)∧(b'.over=false→may b'.asks=true∧b'.asks∉rs)∧(b'.over=true∨zQ known b'.asks=none):=by
 obtain⟨b',kn',wr',g1,g2,g3,g4⟩:=zfT (env:=env) (outs:=outs) (may:=may) (y8 hcs) hd
 have hr:b'.reads.map (·.path)=kn'.map (·.path):=by
  rw[g2.reads,List.map_map];exact List.map_congr_left fun k _=>rfl
 refine⟨b',_,g1,hr,g3.nod,?_,?_,g4⟩
 ·intro p hp
  obtain⟨k,hk,rfl⟩:=List.mem_map.1 hp
  exact⟨g3.may k hk,k,(KP (g3.each k hk)).1,rfl⟩
 ·intro ho
  obtain⟨h1,h2,_⟩:=g2.asks ho
  refine⟨h1,fun hm=>?_⟩
  obtain⟨k,hk,he⟩:=List.mem_map.1 hm
  unfold zQ at h2
  rw[List.find?_eq_none]at h2
  exact h2 k hk (by simpa using he)
theorem zcH {cs:List CmdV} (hl:cs.length≤400) {env:List (Txt × Txt)} {outs outs':List Txt} {may may':Txt→Bool} {known others:List KnV} (hd:∀k∈known,k.data.length≤65536) {b':BoxV}
  (h:goL known 600 (ZR env outs may cs)=some b') (hov:b'.over=true) (ho:∀p,p∈outs↔p∈outs') (hm:∀p,may p=may' p) :
  goL (dF (b'.reads.map (·.path)) known others) 600 (ZR env outs' may' cs)=some (QX outs' may' b'):=by
 have h2:goL (dF (b'.reads.map (·.path)) known others) 600 (ZR env outs may cs)=some b':=by
  refine zaY hd 600 h hov fun p hp=>?_
  obtain⟨r,hr,he⟩:=hp
  exact zej _ _ _ (List.mem_map.2 ⟨r,hr,he⟩)
 obtain⟨m,hs⟩:=zec env outs may cs hl
 rw[zfy ho hm,zat 600 ⟨by rw[hs.outs];exact ho,by rw[hs.may];exact hm⟩,h2]
 rfl
end Go.Proofs.YthgocigdldgpgaaGreatDoor
end
section
set_option maxRecDepth 100000
/-! The law BoxHermetic: the program. -/
namespace Go.Proofs.YthgocigdldgpgaaGreatDoor
open Go Go.Ab
open Classical
variable [Sel] [SelPow] [SelMax]

abbrev zja:Cfg:=⟨fun _=>false,fun n=>n==133||n==134||n==135⟩
def tkH (m:Nat):Nat→Tok
 | 0=>tkT 103 m
 | k+1=>.own 119 (k+1)
def gL (m1 m2:Nat):Nat→Nat:=fun j=>if j=119 then m2 else if j=103 then(if m2=0∨m1=0 then m1 else m1+1) else 0
theorem GJ {α:Type} (P:α→Bool) (l:List α) (k:Nat) (h:k<l.length):(l.take (k+1)).filter P=(l.take k).filter P++if P l[k]=true then [l[k]] else []:=by
 rw[List.take_succ_eq_append_getElem h,List.filter_append]
 by_cases hp:P l[k]=true
 ·simp[hp]
 ·simp[hp]
set_option maxHeartbeats 32000000 in
theorem PM (a:xW) (known others:List KnV) (ha:vA a≤1000000000) (hk:knW known≤1000000000) (hk2:knW others≤1000000000) :
  PC Tryz.prog 4 [.av UI (kT a),.av (.slice 55) (zL known),.av (.slice 55) (zL others)] (.av .bool (.b true)):=by
 have hkns:(zL known).er=zL known:=YO known
 have hkns2:(zL others).er=zL others:=YO others
 have hae:=YB a
 have hgr:=d8 a ha
 have hmn:=P1 known hk
 have hmn2:=P1 others hk2
 obtain⟨A,hA⟩:∃A,A=kT a:=⟨_,rfl⟩
 have hA5:A=.agg [.agg [.s a.pkg,.s a.name],.s a.tool,zS a.env,.sl .no (strs a.ins),.sl .no (strs a.asks),.sl .no (strs a.outs)]:=hA
 rw[←hA]at hgr hae ⊢
 refine PC.of <| q7.of_vc laid mixed Tryz.func4 rfl zja (by kernel_rfl) (by simp[Tryz.ntmps4]) fun imm0 w0=>?_
 (simp (maxSteps:=2000000) (disch:=first|omega|assumption) [zz,-List.reduceReplicate])
 refine qL VZ rfl rfl (by simp) (by simp[qS,TV.er,AV.er]) ?_
 (simp (maxSteps:=2000000) (disch:=first|omega|assumption) [zz,-List.reduceReplicate])
 refine qL hgr rfl rfl (by simp) (by simp[qS,TV.er,hae]) ?_
 by_cases hg:2000<vA a
 ·(simp (maxSteps:=2000000) (disch:=first|omega|assumption) [zz,-List.reduceReplicate,hg,Tryz.f4])
 (simp (maxSteps:=2000000) (disch:=first|omega|assumption) [zz,-List.reduceReplicate,hg])
 refine qL hmn rfl rfl (by simp) (by simp[qS,TV.er,hkns]) ?_
 by_cases hm:5000<knW known
 ·(simp (maxSteps:=2000000) (disch:=first|omega|assumption) [zz,-List.reduceReplicate,hm,Tryz.f4])
 (simp (maxSteps:=2000000) (disch:=first|omega|assumption) [zz,-List.reduceReplicate,hm])
 refine qL hmn2 rfl rfl (by simp) (by simp[qS,TV.er,hkns2]) ?_
 by_cases hm2:5000<knW others
 ·(simp (maxSteps:=2000000) (disch:=first|omega|assumption) [zz,-List.reduceReplicate,hm2,Tryz.f4])
 (simp (maxSteps:=2000000) (disch:=first|omega|assumption) [zz,-List.reduceReplicate,hm2])
 have hab:=zbN (a:=a) (by omega)
 obtain⟨hkd,hkl⟩:=zgi (l:=known) (by omega)
 obtain⟨hkd2,hkl2⟩:=zgi (l:=others) (by omega)
 have hnew:=DZ a hab
 unfold zes at hnew
 rw[←hA]at hnew
 cases hcv:j7 a.tool with
 | error en =>
  obtain⟨e,n⟩:=en
  rw[hcv]at hnew
  have hne:¬e=0:=by rcases Z8 hcv with h|h<;>omega
  refine jP (R:=fun r H'=>r=.tup [(.ptr,.nilptr),(.int .i64,.i .i64 e)]∧H'=[]) rfl (by simp[qQ]) (by simp) ?_ ?_
  ·simpa[TV.er,hae,q8.er_nil]using hnew
  rintro r H' ⟨rfl,rfl⟩
  (simp (maxSteps:=2000000) (disch:=first|omega|assumption) [zz,-List.reduceReplicate,hne,Tryz.f4])
 | ok cs =>
  rw[hcv]at hnew
  refine jP (R:=fun r H'=>∃B,r=.tup [(.ptr,.ptr B KD []),(.int .i64,.i .i64 0)]∧jJ B (ZR a.env a.outs (jI a) cs) H') rfl (by simp[qQ]) (by simp) ?_ ?_
  ·simpa[TV.er,hae,q8.er_nil]using hnew
  rintro r H ⟨B,rfl,hH⟩
  obtain⟨b',rs,hgo,hrs,hnod,hmay,hask,hstop⟩:=zf8 hcv (env:=a.env) (outs:=a.outs) (may:=jI a) hkd
  have hbk:=zbj hcv (by have:=hab.be;omega:a.env.length≤1000000000) hab.bev a.outs (jI a)
  have hlg:=ZZ B hH hbk hab.bo known hkd (by omega) hgo
  have hHe:=hH.er
  (simp (maxSteps:=2000000) (disch:=first|omega|assumption) [zz,-List.reduceReplicate])
  refine qE (R:=fun y H'=>y=yS b'∧jJ B b' H'∧∃kn',Z4 a.env cs a.outs (jI a) kn' b') H [] (by simp) rfl (by simp[qQ]) (by simp) ?_ ?_
  ·rw[hHe]
   simpa[TV.er,AV.er,hkns]using hlg
  rintro y H1 ⟨rfl,hH1,kn',hk1⟩ _
  have hHe1:=hH1.er
  refine⟨H1,by simpa using HSub.refl _,?_⟩
  by_cases hov:b'.over=true
  rotate_left
  ·have hov':b'.over=false:=by simpa using hov
   have hw:=KN hov'
   obtain⟨hm1,hm2⟩:=hask hov'
   have hal:=hk1.askl hov'
   have hmy:=zcP a b'.asks (by omega) (by have:=hab.bi;omega) (by have:=hab.ba;omega) (by have:=hab.bo;omega) (fun x hx=>by have:=hab.bae x hx;omega)
   rw[←hA,hm1]at hmy
   (simp (maxSteps:=2000000) (disch:=first|omega|assumption) [zz,-List.reduceReplicate,yS,hov',hw,zI,qF,zU])
   intro M hM
   refine AT.loop' (α:=Nat) (fun _=>St.of [(3,.loc 3 []),(9,.av .str (.s b'.asks)),(10,.av .bool (.b true)),(13,.av (.map 9 4) (.map (some M))),(59,.av (.slice 52) (.sl .no [])),(60,.av (.int .i64) (.i .i64 0)),(61,.av (.int .i64) (.i .i64 0))] [(3,(UI,A))] (fun _=>0) ((M,yF [])::H1)) (fun _=>True) (fun _=>0) 0 ?_ ?_ ?_
   ·refine Le.of ?_ ?_ ?_ ?_ ?_<;>simp[qU,qG,yF,QY]<;>try omega
   ·trivial
   rintro k-KL hN hE
   refine qM (cf:=zja) laid mixed _ _ _ (by kernel_rfl) ?_
   (simp (maxSteps:=2000000) (disch:=first|omega|assumption) [zz,-List.reduceReplicate])
   refine hE _ _ (by simp) ?_
   (simp (maxSteps:=2000000) (disch:=first|omega|assumption) [zz,-List.reduceReplicate,yF,QY])
   refine qL hmy rfl rfl (by simp) (by simp[qS,TV.er,AV.er,hae]) ?_
   (simp (maxSteps:=2000000) (disch:=first|omega|assumption) [zz,-List.reduceReplicate,Tryz.f4])
  have hor:=zew hov
  have hol:=hk1.outl hab.bo
  obtain⟨o,ho⟩:∃o,o=(yD b').1:=⟨_,rfl⟩
  rw[←ho]at hor hol
  obtain⟨okd,owy,oou,ord⟩:=o
  simp only at hor hol
  rw[←hor]at hrs
  have hrl:rs.length=ord.length:=by rw[←hrs,List.length_map]
  have hrk:∀(k:Nat) (h:k<ord.length),rs[k]'(by omega)=ord[k].path:=fun k h=>by simp only[←hrs,List.getElem_map]
  have hkp:∀p∈rs,p.length≤1000000:=fun p hp=>by
   obtain⟨_,q,hq,rfl⟩:=hmay p hp
   have:=zfR hq
   omega
  have hmy:∀p∈rs,PC Tryz.prog 21 [.av UI A,.av .str (.s p)] (.av .bool (.b true)):=fun p hp=>by
   have:=zcP a p (hkp p hp) (by have:=hab.bi;omega) (by have:=hab.ba;omega) (by have:=hab.bo;omega) (fun x hx=>by have:=hab.bae x hx;omega)
   rw[←hA,(hmay p hp).1]at this
   exact this
  (simp (maxSteps:=2000000) (disch:=first|omega|assumption) [zz,-List.reduceReplicate,yS,hov])
  rw[←ho]
  (simp (maxSteps:=2000000) (disch:=first|omega|assumption) [zz,-List.reduceReplicate,zI,qF])
  intro M hM
  refine AT.loop' (α:=Nat) (fun k=>St.of [(1,.av (.slice 55) (zL known)),(2,.av (.slice 55) (zL others)),(3,.loc 3 []),(10,.av .bool (.b false)),(11,.loc 11 []),(13,.av (.map 9 4) (.map (some M))),(59,.av (.slice 52) (.sl .no (ord.map qI))),(60,.av (.int .i64) (.i .i64 ord.length)),(61,.av (.int .i64) (.i .i64 k))]
    [(3,(UI,A)),(11,(qD Tryz.prog 41,zI ⟨okd,owy,oou,ord⟩))] (fun _=>0) ((M,yF (rs.take k))::H1))
   (fun k=>k≤ord.length) (fun k=>ord.length-k) 0 ?_ ?_ ?_
  ·refine Le.of ?_ ?_ ?_ ?_ ?_<;>simp[qU,qG,yF,QY,zI,qF]<;>try omega
  ·omega
  rintro k hk2 KL hN hE
  refine qM (cf:=zja) laid mixed _ _ _ (by kernel_rfl) ?_
  by_cases hlt:k<ord.length
  ·have hlt':(k:Int)<ord.length:=by omega
   have hg:=KB qI ord k hlt
   have hpr:ord[k].path∈rs:=by rw[←hrk k hlt];exact List.getElem_mem _
   have hnt:ord[k].path∉rs.take k:=by
    rw[←hrk k hlt]
    intro hm
    obtain⟨j,hj,he⟩:=List.getElem_of_mem hm
    rw[List.getElem_take]at he
    have hjk:j<k:=by rw[List.length_take]at hj;omega
    exact List.pairwise_iff_getElem.1 hnod j k (by omega) (by omega) hjk he
   have hmf:=pS ord[k].path (rs.take k)
   rw[if_neg hnt]at hmf
   have hmp:=zeG ord[k].path (rs.take k)
   have hst:VT (rs.take k) ord[k].path=rs.take (k+1):=by
    unfold VT
    rw[if_neg hnt,List.take_succ_eq_append_getElem (by omega),hrk k hlt]
   rw[hst]at hmp
   have hmk:=hmy _ hpr
   obtain⟨r,hr⟩:∃r,r=ord[k]:=⟨_,rfl⟩
   rw[←hr]at hg hmf hmp hmk
   (simp (maxSteps:=2000000) (disch:=first|omega|assumption) [zz,-List.reduceReplicate,hlt',hg,qI,hmf,yF])
   refine qL hmk rfl rfl (by simp) (by simp[qS,TV.er,AV.er,hae]) ?_
   (simp (maxSteps:=2000000) (disch:=first|omega|assumption) [zz,-List.reduceReplicate,hmp])
   refine hN _ (k+1) ?_ (by omega) (by omega)
   refine Le.of ?_ ?_ ?_ ?_ ?_<;>simp[qU,qG,yF]<;>try omega
  have hkn:k=ord.length:=by omega
  subst hkn
  have hlt':¬(ord.length:Int)<ord.length:=by omega
  have htk:rs.take ord.length=rs:=by rw[←hrl];exact List.take_length
  (simp (maxSteps:=2000000) (disch:=first|omega|assumption) [zz,-List.reduceReplicate,hlt'])
  refine hE _ _ (by simp) ?_
  clear hN hE
  have hma:∀p,yY (.s p) (QY rs)=if p∈rs then some (.b true) else none:=fun p=>pS p rs
  (simp (maxSteps:=2000000) (disch:=first|omega|assumption) [zz,-List.reduceReplicate,htk])
    -- of the known what was read
  refine AT.loop' (α:=Nat × List KnV) (fun x=>St.of [(2,.av (.slice 55) (zL others)),(3,.loc 3 []),(11,.loc 11 []),(13,.av (.map 9 4) (.map (some M))),(16,.av (.slice 55) (.sl (tkT 103 x.2.length) (x.2.map zH))),(90,.av (.slice 55) (zL known)),(91,.av (.int .i64) (.i .i64 known.length)),(92,.av (.int .i64) (.i .i64 x.1))]
    [(3,(UI,A)),(11,(qD Tryz.prog 41,zI ⟨okd,owy,oou,ord⟩))] (fun j=>if j=103 then x.2.length else 0) ((M,yF rs)::H1))
   (fun x=>x.1≤known.length∧x.2=(known.take x.1).filter fun k=>decide (k.path∈rs)) (fun x=>known.length-x.1) (0,[]) ?_ ?_ ?_
  ·refine Le.of ?_ ?_ ?_ ?_ ?_<;>simp[qU,qG,tkT,zL]<;>try omega
  ·exact⟨by simp only;omega,rfl⟩
  rintro⟨k,L⟩ ⟨hk2,hL⟩ KL hN hE
  simp only at hk2 hL hN
  refine qM (cf:=zja) laid mixed _ _ _ (by kernel_rfl) ?_
  by_cases hlt:k<known.length
  ·have hlt':(k:Int)<known.length:=by omega
   have hg:=pZ known k hlt
   have hfs:=GJ (fun k=>decide (k.path∈rs)) known k hlt
   rw[←hL]at hfs
   have hmf:=hma known[k].path
   have hLl:L.length≤k:=by rw[hL];exact Nat.le_trans (List.length_filter_le _ _) (List.length_take_le _ _)
   obtain⟨q,hq⟩:∃q,q=known[k]:=⟨_,rfl⟩
   rw[←hq]at hg hfs hmf
   by_cases hin:q.path∈rs
   ·rw[if_pos hin]at hmf
    rw[if_pos (by simpa using hin)]at hfs
    cases L with
    | nil =>
     (simp (maxSteps:=2000000) (disch:=first|omega|assumption) [zz,-List.reduceReplicate,hlt',hg,zL,zH,hmf,yF,tkT])
     (simp (maxSteps:=2000000) (disch:=first|omega|assumption) [zz,-List.reduceReplicate,wB])
     (repeat with_reducible refine om ?_)
     refine hN _ (k+1,[q]) ?_ ⟨by simp only;omega,by simpa using hfs.symm⟩ (by simp only;omega)
     refine Le.of ?_ ?_ ?_ ?_ ?_<;>simp[qU,qG,tkT,zH,zL,yF]<;>try omega
    | cons y L =>
     simp only[List.length_cons]at hLl
     (simp (maxSteps:=2000000) (disch:=first|omega|assumption) [zz,-List.reduceReplicate,hlt',hg,zL,zH,hmf,yF,tkT])
     (simp (maxSteps:=2000000) (disch:=first|omega|assumption) [zz,-List.reduceReplicate,wB])
     (repeat with_reducible refine om ?_)
     refine hN _ (k+1,(y::L)++[q]) ?_ ⟨by simp only;omega,hfs.symm⟩ (by simp only;omega)
     refine Le.of ?_ ?_ ?_ ?_ ?_<;>simp[qU,qG,tkT,zH,zL,yF]<;>try omega
     all_goals (intro j;by_cases hj:j=103<;>simp[hj])
   ·rw[if_neg hin]at hmf
    rw[if_neg (by simpa using hin),List.append_nil]at hfs
    (simp (maxSteps:=2000000) (disch:=first|omega|assumption) [zz,-List.reduceReplicate,hlt',hg,zL,zH,hmf,yF])
    refine hN _ (k+1,L) ?_ ⟨by simp only;omega,hfs.symm⟩ (by simp only;omega)
    refine Le.of ?_ ?_ ?_ ?_ ?_<;>simp[qU,qG,zL,yF]<;>try omega
  have hkn:k=known.length:=by omega
  subst hkn
  have hlt':¬(known.length:Int)<known.length:=by omega
  rw[List.take_length]at hL
  (simp (maxSteps:=2000000) (disch:=first|omega|assumption) [zz,-List.reduceReplicate,hlt'])
  refine hE _ _ (by simp) ?_
  clear hN hE
  (simp (maxSteps:=2000000) (disch:=first|omega|assumption) [zz,-List.reduceReplicate])
    -- of the others what was not
  refine AT.loop' (α:=Nat × List KnV) (fun x=>St.of [(3,.loc 3 []),(11,.loc 11 []),(13,.av (.map 9 4) (.map (some M))),(16,.av (.slice 55) (.sl (tkH L.length x.2.length) ((L++x.2).map zH))),(105,.av (.slice 55) (zL others)),(106,.av (.int .i64) (.i .i64 others.length)),(107,.av (.int .i64) (.i .i64 x.1))]
    [(3,(UI,A)),(11,(qD Tryz.prog 41,zI ⟨okd,owy,oou,ord⟩))] (gL L.length x.2.length) ((M,yF rs)::H1))
   (fun x=>x.1≤others.length∧x.2=(others.take x.1).filter fun k=>!decide (k.path∈rs)) (fun x=>others.length-x.1) (0,[]) ?_ ?_ ?_
  ·refine Le.of ?_ ?_ ?_ ?_ ?_<;>simp[qU,qG,tkH,zL,gL]<;>try omega
   all_goals (intro j;by_cases hj:j=119<;>by_cases hj2:j=103<;>simp[hj,hj2])
  ·exact⟨by simp only;omega,rfl⟩
  rintro⟨k,L2⟩ ⟨hk2,hL2⟩ KL hN hE
  simp only at hk2 hL2 hN
  refine qM (cf:=zja) laid mixed _ _ _ (by kernel_rfl) ?_
  by_cases hlt:k<others.length
  ·have hlt':(k:Int)<others.length:=by omega
   have hg:=pZ others k hlt
   have hfs:=GJ (fun k=>!decide (k.path∈rs)) others k hlt
   rw[←hL2]at hfs
   have hmf:=hma others[k].path
   have hLl:L2.length≤k:=by rw[hL2];exact Nat.le_trans (List.length_filter_le _ _) (List.length_take_le _ _)
   have hL1:L.length≤5000:=by rw[hL];exact Nat.le_trans (List.length_filter_le _ _) hkl
   obtain⟨q,hq⟩:∃q,q=others[k]:=⟨_,rfl⟩
   rw[←hq]at hg hfs hmf
   by_cases hin:q.path∈rs
   ·rw[if_pos hin]at hmf
    rw[if_neg (by simp[hin]),List.append_nil]at hfs
    (simp (maxSteps:=2000000) (disch:=first|omega|assumption) [zz,-List.reduceReplicate,hlt',hg,zL,zH,hmf,yF])
    refine hN _ (k+1,L2) ?_ ⟨by simp only;omega,hfs.symm⟩ (by simp only;omega)
    refine Le.of ?_ ?_ ?_ ?_ ?_<;>simp[qU,qG,zL,yF,gL]<;>try omega
   ·rw[if_neg hin]at hmf
    rw[if_pos (by simp[hin])]at hfs
    cases L2 with
    | nil =>
     cases L with
     | nil =>
      (simp (maxSteps:=2000000) (disch:=first|omega|assumption) [zz,-List.reduceReplicate,hlt',hg,zL,zH,hmf,yF,tkH,tkT,gL])
      (simp (maxSteps:=2000000) (disch:=first|omega|assumption) [zz,-List.reduceReplicate,wB,gL])
      (repeat with_reducible refine om ?_)
      refine hN _ (k+1,[q]) ?_ ⟨by simp only;omega,by simpa using hfs.symm⟩ (by simp only;omega)
      refine Le.of ?_ ?_ ?_ ?_ ?_<;>simp[qU,qG,tkH,zH,zL,yF,gL]<;>try omega
      all_goals (intro j;by_cases hj:j=119<;>by_cases hj2:j=103<;>simp[hj,hj2])
     | cons y L =>
      simp only[List.length_cons]at hL1
      (simp (maxSteps:=2000000) (disch:=first|omega|assumption) [zz,-List.reduceReplicate,hlt',hg,zL,zH,hmf,yF,tkH,tkT,gL])
      (simp (maxSteps:=2000000) (disch:=first|omega|assumption) [zz,-List.reduceReplicate,wB,gL])
      (repeat with_reducible refine om ?_)
      refine hN _ (k+1,[q]) ?_ ⟨by simp only;omega,by simpa using hfs.symm⟩ (by simp only;omega)
      refine Le.of ?_ ?_ ?_ ?_ ?_<;>simp[qU,qG,tkH,zH,zL,yF,gL]<;>try omega
      all_goals (intro j;by_cases hj:j=119<;>by_cases hj2:j=103<;>simp[hj,hj2])
    | cons y L2 =>
     simp only[List.length_cons]at hLl
     (simp (maxSteps:=2000000) (disch:=first|omega|assumption) [zz,-List.reduceReplicate,hlt',hg,zL,zH,hmf,yF,tkH,gL])
     (simp (maxSteps:=2000000) (disch:=first|omega|assumption) [zz,-List.reduceReplicate,wB,gL])
     (repeat with_reducible refine om ?_)
     refine hN _ (k+1,(y::L2)++[q]) ?_ ⟨by simp only;omega,hfs.symm⟩ (by simp only;omega)
     refine Le.of ?_ ?_ ?_ ?_ ?_<;>simp[qU,qG,tkH,zH,zL,yF,gL]<;>try omega
     all_goals (intro j;by_cases hj:j=119<;>by_cases hj2:j=103<;>simp[hj,hj2])
  have hkn:k=others.length:=by omega
  subst hkn
  have hlt':¬(others.length:Int)<others.length:=by omega
  rw[List.take_length]at hL2
  obtain⟨ag,hag⟩:∃ag,ag=L++L2:=⟨_,rfl⟩
  have hagv:dF (b'.reads.map (·.path)) known others=ag:=by
   rw[←hor,hrs,hag,hL,hL2];rfl
  have hagm:∀k∈ag,k.data.length≤65536:=by
   intro k hk
   rw[hag,hL,hL2]at hk
   rcases List.mem_append.1 hk with h|h
   ·exact hkd k ((List.mem_filter.1 h).1)
   ·exact hkd2 k ((List.mem_filter.1 h).1)
  have hagl:ag.length≤10000:=by
   rw[hag,List.length_append,hL,hL2]
   have h1:=List.length_filter_le (fun k:KnV=>decide (k.path∈rs)) known
   have h2:=List.length_filter_le (fun k:KnV=>!decide (k.path∈rs)) others
   omega
  rw[←hag]
  obtain⟨tk,htk2⟩:∃tk,tk=tkH L.length L2.length:=⟨_,rfl⟩
  obtain⟨ver,hver⟩:∃ver:Nat→Nat,ver=gL L.length L2.length:=⟨_,rfl⟩
  rw[←htk2,←hver]
  (simp (maxSteps:=2000000) (disch:=first|omega|assumption) [zz,-List.reduceReplicate,hlt'])
  refine hE _ _ (by simp) ?_
  clear hN hE
  obtain⟨c,hc⟩:∃c:xW,c=⟨[111,116,104,101,114],[111,119,110,101,114],a.tool,a.env,K5 a.ins,K5 a.asks,K5 a.outs⟩:=⟨_,rfl⟩
  have hti:=gI a.ins
  have hta:=gI a.asks
  have hto:=gI a.outs
  have hai:=zbN (a:=a) (by omega)
  have hal:=hai.bi
  have hcb:zky c:=by
   have h1:=pU a.env
   have h2:=WB a.ins
   have h3:=WB a.asks
   have h4:=WB a.outs
   have h5:vA a=a.tool.length+(txW a.ins+txW a.asks+txW a.outs)+enW a.env:=rfl
   subst hc
   refine⟨hab.bt,hab.be,hab.bev,by simp only;omega,by simp only;omega,fun x hx=>hab.bae x ((YF a.asks x).2 hx),by simp only;omega⟩
  have hnew2:=DZ c hcb
  unfold zes at hnew2
  rw[show j7 c.tool=.ok cs by rw[hc];exact hcv]at hnew2
  rw[hc]at hnew2
  unfold kT at hnew2
  rw[←hc]at hnew2
  (simp (maxSteps:=2000000) (disch:=first|omega|assumption) [zz,-List.reduceReplicate,hA5])
  (repeat with_reducible refine om ?_)
  refine jC (zc7 a.ins hab.bi) rfl rfl (by simp) (by simp[qS,coC,TV.er,AV.er]) ?_;(simp (maxSteps:=2000000) (disch:=first|omega|assumption) [zz])
  (repeat with_reducible refine om ?_)
  refine jC (zc7 a.asks hab.ba) rfl rfl (by simp) (by simp[qS,coC,TV.er,AV.er]) ?_;(simp (maxSteps:=2000000) (disch:=first|omega|assumption) [zz])
  (repeat with_reducible refine om ?_)
  refine jC (zc7 a.outs hab.bo) rfl rfl (by simp) (by simp[qS,coC,TV.er,AV.er]) ?_;(simp (maxSteps:=2000000) (disch:=first|omega|assumption) [zz])
  (repeat with_reducible refine om ?_)
  have hmt:=zlr rs
  have hcA:AV.agg [.agg [.s c.pkg,.s c.name],.s c.tool,zS c.env,.sl .no (strs c.ins),.sl .no (strs c.asks),.sl .no (strs c.outs)]=AV.agg [.agg [.s [111,116,104,101,114],.s [111,119,110,101,114]],.s a.tool,zS a.env,.sl .no (strs (K5 a.ins)),.sl .no (strs (K5 a.asks)),.sl .no (strs (K5 a.outs))]:=by rw[hc]
  have hce:=YB c
  unfold kT at hce
  rw[hcA]at hnew2 hce
  obtain⟨C5,hC5⟩:∃C5,C5=AV.agg [.agg [.s [111,116,104,101,114],.s [111,119,110,101,114]],.s a.tool,zS a.env,.sl .no (strs (K5 a.ins)),.sl .no (strs (K5 a.asks)),.sl .no (strs (K5 a.outs))]:=⟨_,rfl⟩
  rw[←hC5]at hnew2 hce ⊢
  have hb2:=zbj hcv (by have:=hab.be;omega:a.env.length≤1000000000) hab.bev c.outs (jI c)
  have hgo2:=zcH (y8 hcv) (others:=others) (outs':=c.outs) (may':=jI c) hkd hgo hov (fun p=>by rw[hc];exact YF a.outs p)
   (fun p=>zen (fun p=>by rw[hc];exact YF a.outs p) (fun p=>by rw[hc];exact YF a.ins p) (fun p=>by rw[hc];exact YF a.asks p) p)
  rw[hagv]at hgo2
  have hcn:ZR c.env c.outs (jI c) cs=ZR a.env c.outs (jI c) cs:=by rw[show c.env=a.env by rw[hc]]
  simp only[hcn]at hnew2
  refine qE (R:=fun r H'=>∃D,r=.tup [(.ptr,.ptr D KD []),(.int .i64,.i .i64 0)]∧jJ D (ZR a.env c.outs (jI c) cs) H') [] ((M,yF rs)::H1) (by simp) rfl (by simp[qQ]) (by simp) ?_ ?_
  ·simpa[TV.er,hce,q8.er_nil]using hnew2
  rintro r H2 ⟨D,rfl,hH2⟩ _
  have hHe2:=hH2.er
  refine⟨H2++(M,yF rs)::H1,HSub.refl _,?_⟩
  (simp (maxSteps:=2000000) (disch:=first|omega|assumption) [zz,-List.reduceReplicate])
  have hage:(zL ag).er=zL ag:=YO ag
  have hlg2:=ZZ D hH2 hb2 hcb.bo ag hagm (by omega) hgo2
  refine qE (R:=fun y H'=>y=yS (QX c.outs (jI c) b')∧jJ D (QX c.outs (jI c) b') H'∧∃kn',Z4 a.env cs c.outs (jI c) kn' (QX c.outs (jI c) b')) H2 ((M,yF rs)::H1) (List.Perm.refl _) rfl (by simp[qQ]) (by simp) ?_ ?_
  ·rw[hHe2]
   have hees:AV.ers (ag.map zH)=ag.map zH:=by simp[AV.ers_eq,Function.comp_def,vU]
   simpa[TV.er,AV.er,hees,zL]using hlg2
  rintro y H3 ⟨rfl,hH3,_⟩ _
  refine⟨H3++(M,yF rs)::H1,HSub.refl _,?_⟩
  have hov2:(QX c.outs (jI c) b').over=true:=hov
  have hou2:yD (QX c.outs (jI c) b')=yD b':=ziS _ _ _
  obtain⟨o,hoo⟩:∃o:zcy,o=⟨okd,owy,oou,ord⟩:=⟨_,rfl⟩
  have hss:WJ o o=true:=u5.2 rfl
  have hso:=VG o o (by rw[hoo];exact hol.1) (by rw[hoo];exact hol.2) (by rw[hoo];exact hol.1) (by rw[hoo];exact hol.2)
  rw[hss]at hso
  have hoe:=KO o
  rw[←hoo]at ho ⊢
  (simp (maxSteps:=2000000) (disch:=first|omega|assumption) [zz,-List.reduceReplicate,yS,hov2,hou2])
  rw[←ho]
  refine qL hso rfl rfl (by simp) (by simp[qS,TV.er,hoe]) ?_
  (simp (maxSteps:=2000000) (disch:=first|omega|assumption) [zz,-List.reduceReplicate,Tryz.f4])
end Go.Proofs.YthgocigdldgpgaaGreatDoor
end
