/- Is a text a pattern? The reference. No condition beyond each theorem's own. -/
import Derived.Test.YtooipdkilgpojaaGreatDoorRWGToHM0
import Derived.Test.YtooipdkilgpojaaGreatDoorTK1ToRW6
set_option linter.unusedSimpArgs false
set_option linter.unusedVariables false
set_option linter.unusedSectionVars false
section
set_option maxRecDepth 100000
namespace Go.Proofs.YtooipdkilgpojaaGreatDoor
open Go Go.Ab
open Classical
variable [Sel] [SelPow] [SelMax]
@[simp] theorem zkE:qZ Tryz.prog 163=true:=by kernel_rfl
@[simp] theorem zqV:z8 Tryz.prog (.func 163)=false:=q9 zkE
@[simp] theorem zA0:qZ Tryz.prog 119=true:=by kernel_rfl
@[simp] theorem zAN:z8 Tryz.prog (.func 119)=false:=q9 zA0
@[simp] theorem zA5:qZ Tryz.prog 120=true:=by kernel_rfl
@[simp] theorem zB8:z8 Tryz.prog (.func 120)=false:=q9 zA5
@[simp] theorem zx8:qZ Tryz.prog 75=true:=by kernel_rfl
@[simp] theorem zxp:z8 Tryz.prog (.func 75)=false:=q9 zx8
def YP:Bool→List UInt8→Bool
 | _,[]=>true
 | b,c::r=>(y9 c||W6 c)&&(!(b&&decide (c=42))&&YP (decide (c=42)) r)
theorem zck:∀(s:List UInt8) (b:Bool),YP b s=(KU s&&!(b&&Q8 s [42]))
 | [],b=>by cases b<;>rfl
 | c::r,b=>by
  have ih:=zck r (decide (c=42))
  have h1:Q8 (c::r) [42]=decide (c=42):=by simp[Q8]
  have h2:Q8 (c::r) [42,42]=(decide (c=42)&&Q8 r [42]):=by
   cases r<;>simp[Q8]
  rw[YP,KU,ih,h1,h2]
  cases y9 c<;>cases W6 c<;>cases b<;>cases decide (c=42)<;>cases KU r<;>cases Q8 r [42]<;>rfl
theorem zk3 {b:Bool} {s:List UInt8} {k:Nat} {c:UInt8} (h:s[k]?=some c):YP b (s.drop k)=((y9 c||W6 c)&&(!(b&&decide (c=42))&&YP (decide (c=42)) (s.drop (k+1)))):=by
 rw[yJ h,YP]
def gU (s:List UInt8):Nat→Bool
 | 0=>false
 | k+1=>decide (s[k]?=some 42)
theorem znP (c:UInt8):Q0 [97,c]=y9 c:=by
 have h1:jD 97=true:=by decide
 simp[Q0,h1,y9]
set_option maxHeartbeats 4000000 in
theorem zhe (s:List UInt8) (hs:s.length≤1000000000):PC Tryz.prog 163 [.av .str (.s s)] (.av .bool (.b (y6 s))):=by
 refine zow Tryz.func163 cf0 fun imm0 w0=>?_
 by_cases h0:s=[42,42]
 ·have:y6 s=true:=by simp[y6,h0]
  simp (disch:=omega) [zz,h0,Tryz.f163]
  rw[←h0];exact this
 have hpg:y6 s=(KU s&&decide (1≤s.length∧s.length≤64∧s≠[46]∧s≠[46,46])):=by simp[y6,h0]
 by_cases h1:s=[]
 ·have hr:y6 s=false:=by rw[hpg,h1];simp
  simp (disch:=omega) [zz,h0,h1,Tryz.f163]
  rw[←h1];exact hr
 have h1':¬(s.length:Int)=0:=fun h=>h1 (List.eq_nil_of_length_eq_zero (by omega))
 have h1l:1≤s.length:=by omega
 by_cases h2:s.length≤64
 rotate_left
 ·have hr:y6 s=false:=by rw[hpg];simp[h2]
  have h2':(64:Int)<s.length:=by omega
  simp (disch:=omega) [zz,h0,h1,h1',h2',hr,Tryz.f163]
 have h2':¬(64:Int)<s.length:=by omega
 by_cases h3:s=[46]
 ·have hr:y6 s=false:=by rw[hpg];simp[h3]
  simp (disch:=omega) [zz,h0,h1,h1',h2',h3,Tryz.f163]
  rw[←h3];exact hr
 by_cases h4:s=[46,46]
 ·have hr:y6 s=false:=by rw[hpg];simp[h4]
  simp (disch:=omega) [zz,h0,h1,h1',h2',h3,h4,Tryz.f163]
  rw[←h4];exact hr
 have hpw:y6 s=YP false s:=by rw[hpg,zck];simp[h1l,h2,h3,h4]
 simp (disch:=omega) [zz,h0,h1,h1',h2',h3,h4]
 refine AT.loop' (α:=Nat) (fun k=>St.of [(0,.av .str (.s s)),(3,.av (.int .i64) (.i .i64 k))] [] (fun _=>0) []) (fun k=>k≤s.length∧YP false s=YP (gU s k) (s.drop k)) (fun k=>s.length-k) 0 ?_ ?_ ?_
 ·apply Le.of<;>simp[qU,qG,qO,qH,qP,qK,qF,qI,qJ,qN,zX]<;>try omega
 ·exact⟨by omega,by simp[gU]⟩
 rintro k ⟨hk,hg⟩ KL hN hE
 refine qM (cf:=cf0) laid mixed _ _ _ (by kernel_rfl) ?_
 by_cases hlt:k<s.length
 rotate_left
 ·have hlt':¬(k:Int)<s.length:=by omega
  rw[List.drop_of_length_le (by omega)]at hg
  have hr:y6 s=true:=by rw[hpw,hg];rfl
  simp (disch:=omega) [zz,hlt']
  refine hE _ _ (by simp) ?_
  simp (disch:=omega) [zz,Tryz.f163,hr]
 have hlt':(k:Int)<s.length:=by omega
 obtain⟨c,hc⟩:∃c,c=s[k]:=⟨_,rfl⟩
 have hsc:s[k]=c:=hc.symm
 have hgc:s[k]?=some c:=by rw[List.getElem?_eq_getElem hlt,hsc]
 have hat:=zk3 (b:=gU s k) hgc
 have hpt:=znP c
 have hn1:gU s (k+1)=decide (c=42):=by simp[gU,hgc]
 have bad:y9 c=false→W6 c=false→y6 s=false:=by
  intro h1 h2
  rw[hpw,hg,hat,h1,h2];rfl
 have pre:gU s k=true→c=42→y6 s=false:=by
  intro h1 h2
  rw[hpw,hg,hat,h1,decide_eq_true h2];simp
 have on:(y9 c||W6 c)=true→(gU s k=true→c=42→False)→YP false s=YP (gU s (k+1)) (s.drop (k+1)):=by
  intro h1 h2
  rw[hg,hat,h1,hn1]
  cases h3:gU s k
  ·simp
  ·have:¬c=42:=fun h=>h2 h3 h
   simp[this]
 by_cases h42:c=42
 ·subst h42
  have hgd:(y9 42||W6 42)=true:=by decide
  cases k with
  | zero =>
   have hz:0<s.length:=by omega
   simp (disch:=omega) [zz,hlt',hz,hsc]
   try (repeat with_reducible refine om ?_)
   refine hN _ 1 ?_ ⟨by omega,on hgd (by simp[gU])⟩ (by omega)
   apply Le.of<;>simp[qU,qG,qO,qH,qP,qK,qF,qI,qJ,qN,zX]<;>try omega
  | succ j =>
   have hj:j<s.length:=by omega
   have hj':((j:Int)+1)-1=j:=by omega
   have hj0:(0:Int)<(j:Int)+1:=by omega
   have hj1:(j:Int)+1<s.length:=by omega
   have hj2:(0:Int)≤(j:Int)+1:=by omega
   obtain⟨d,hd⟩:∃d,d=s[j]:=⟨_,rfl⟩
   have hsd:s[j]=d:=hd.symm
   have hgd':s[j]?=some d:=by rw[List.getElem?_eq_getElem hj,hsd]
   have hpj:gU s (j+1)=decide (d=42):=by simp[gU,hgd']
   by_cases hd42:d=42
   ·subst hd42
    have hr:=pre (by rw[hpj];rfl) rfl
    simp (disch:=omega) [zz,hlt',hsc,hsd,hj',hj0,hj1,hj2,hj]
    try (repeat with_reducible refine om ?_)
    refine hE _ _ (by simp) ?_
    simp (disch:=omega) [zz,Tryz.f163,hr]
   ·have hd42':¬(d.toNat:Int)=42:=by have:=YH (n:=42) (by omega) hd42;simpa using this
    simp (disch:=omega) [zz,hlt',hsc,hsd,hj',hj0,hj1,hj2,hj,hd42,hd42']
    try (repeat with_reducible refine om ?_)
    refine hN _ (j+1+1) ?_ ⟨by omega,on hgd (by rw[hpj];simp[hd42])⟩ (by omega)
    apply Le.of<;>simp[qU,qG,qO,qH,qP,qK,qF,qI,qJ,qN,zX]<;>try omega
 have h42':¬(c.toNat:Int)=42:=by have:=YH (n:=42) (by omega) h42;simpa using this
 have go:(y9 c||W6 c)=true→YP false s=YP (gU s (k+1)) (s.drop (k+1)):=fun h=>on h fun _ h2=>h42 h2
 by_cases h63:c=63
 ·subst h63
  have hgd:(y9 63||W6 63)=true:=by decide
  rcases Nat.eq_zero_or_pos k with rfl|hk0
  ·have hz:0<s.length:=by omega
   simp (disch:=omega) [zz,hlt',hz,hsc]
   try (repeat with_reducible refine om ?_)
   refine hN _ 1 ?_ ⟨by omega,go hgd⟩ (by omega)
   apply Le.of<;>simp[qU,qG,qO,qH,qP,qK,qF,qI,qJ,qN,zX]<;>try omega
  have hkn:k≠0:=by omega
  simp (disch:=omega) [zz,hlt',hsc,hk0,hkn]
  try (repeat with_reducible refine om ?_)
  refine hN _ (k+1) ?_ ⟨by omega,go hgd⟩ (by omega)
  apply Le.of<;>simp[qU,qG,qO,qH,qP,qK,qF,qI,qJ,qN,zX]<;>try omega
 have h63':¬(c.toNat:Int)=63:=by have:=YH (n:=63) (by omega) h63;simpa using this
 have hsl:(s.take (k+1)).drop k=[c]:=by
  rw[List.drop_take,show k+1-k=1 by omega,yJ hgc];rfl
 simp (disch:=omega) [zz,hlt',hsc,h42,h42',h63,h63',hsl]
 try (repeat with_reducible refine om ?_)
 refine qL (zcA [97,c] (by simp)) rfl rfl (by simp) (by simp[qS,coC,TV.er,AV.er,hsl]) ?_
 rw[hpt]
 cases hp:y9 c
 ·have hr:=bad hp (by simp[W6,h63,h42])
  simp (disch:=omega) [zz,hp]
  try (repeat with_reducible refine om ?_)
  refine hE _ _ (by simp) ?_
  simp (disch:=omega) [zz,Tryz.f163,hr]
 ·rcases Nat.eq_zero_or_pos k with rfl|hk0
  ·have hz:0<s.length:=by omega
   simp (disch:=omega) [zz,hp,hlt',hz,hsc,h42,h42']
   try (repeat with_reducible refine om ?_)
   refine hN _ 1 ?_ ⟨by omega,go (by rw[hp];rfl)⟩ (by omega)
   apply Le.of<;>simp[qU,qG,qO,qH,qP,qK,qF,qI,qJ,qN,zX]<;>try omega
  have hkn:k≠0:=by omega
  simp (disch:=omega) [zz,hp,hlt',hsc,h42,h42',hk0,hkn]
  try (repeat with_reducible refine om ?_)
  refine hN _ (k+1) ?_ ⟨by omega,go (by rw[hp];rfl)⟩ (by omega)
  apply Le.of<;>simp[qU,qG,qO,qH,qP,qK,qF,qI,qJ,qN,zX]<;>try omega
theorem ziX (p:List UInt8) (hp:p.length≤1000000):PC Tryz.prog 119 [.av .str (.s p)] (.av .bool (.b (PZ p))):=by
 refine zow Tryz.func119 cf0 fun imm0 w0=>?_
 have hle:=QQ 47 p
 have hlen:∀x∈qT 47 p,x.length≤p.length:=fun x hx=>kU 47 p x hx
 obtain⟨ps,hps⟩:∃ps,ps=qT 47 p:=⟨_,rfl⟩
 simp (disch:=omega) [zz]
 refine zcv (u9 p (by omega)) ?_
 rw[←hps]at hle hlen ⊢
 have hpv:PZ p=(decide (ps.length≤16)&&ps.all y6):=by rw[hps];rfl
 simp (disch:=omega) [zz,qX]
 refine AT.loop' (α:=Nat) (fun k=>St.of [(3,.av (.slice 9) (.sl .no (strs ps))),(8,.av (.slice 9) (.sl .no (strs ps))),(9,.av (.int .i64) (.i .i64 ps.length)),(10,.av (.int .i64) (.i .i64 k))] [] (fun _=>0) []) (fun k=>k≤ps.length∧(ps.take k).all y6=true) (fun k=>ps.length-k) 0 ?_ ?_ ?_
 ·apply Le.of<;>simp[qU,qG,qO,qH,qP,qK,qF,qI,qJ,qN,zX]<;>try omega
 ·simp
 rintro k ⟨hk,hall⟩ KL hN hE
 refine qM (cf:=cf0) laid mixed _ _ _ (by kernel_rfl) ?_
 by_cases hlt:k<ps.length
 ·have hlt':(k:Int)<ps.length:=by omega
  obtain⟨x,hx⟩:∃x,x=ps[k]:=⟨_,rfl⟩
  have hgx:(strs ps)[k]?=some (.s x):=by rw[yH ps k hlt,hx]
  have hxl:=hlen x (by rw[hx];exact List.getElem_mem _)
  simp (disch:=omega) [zz,hlt',qX,hgx]
  refine zcv (zhe x (by omega)) ?_
  cases hb:y6 x
  ·have hr:PZ p=false:=by
    have:ps.all y6=false:=List.all_eq_false.2 ⟨x,by rw[hx];exact List.getElem_mem _,by simp[hb]⟩
    rw[hpv,this];simp
   simp (disch:=omega) [zz]
   refine hE _ _ (by simp) ?_
   simp (disch:=omega) [zz,Tryz.f119,hr]
  ·simp (disch:=omega) [zz]
   refine hN _ (k+1) ?_ ⟨by omega,by rw[List.take_succ_eq_append_getElem hlt,List.all_append,hall,←hx];simp[hb]⟩ (by omega)
   apply Le.of<;>simp[qU,qG,qO,qH,qP,qK,qF,qI,qJ,qN,zX]<;>try omega
 ·have hlt':¬(k:Int)<ps.length:=by omega
  rw[List.take_of_length_le (by omega)]at hall
  have hd:decide ((ps.length:Int)≤16)=decide (ps.length≤16):=decide_eq_decide.2 (by omega)
  have hr:PZ p=decide (ps.length≤16):=by rw[hpv,hall];simp
  simp (disch:=omega) [zz,hlt']
  refine hE _ _ (by simp) ?_
  simp (disch:=omega) [zz,Tryz.f119,hr,qX,hd]
def Q3 (m k:Nat) (f:Nat→Bool):List AV:=(List.range m).map fun j=>.b (decide (j<k)&&f j)
theorem jN (m k:Nat) (f:Nat→Bool):(Q3 m k f).length=m:=by simp[Q3]
theorem Z9 {m k j:Nat} (f:Nat→Bool) (h1:j<m) (h2:j<k):(Q3 m k f)[j]?=some (.b (f j)):=by
 simp[Q3,h1,h2]
theorem zaF (m:Nat) (f:Nat→Bool):List.replicate m (AV.b false)=Q3 m 0 f:=by
 refine List.ext_getElem? fun i=>?_
 by_cases h:i<m<;>simp[Q3,h]
theorem zcZ {m k:Nat} {f:Nat→Bool} {v:Bool} (hv:f k=v):(Q3 m k f).set k (.b v)=Q3 m (k+1) f:=by
 refine List.ext_getElem? fun i=>?_
 rw[List.getElem?_set]
 by_cases h:i<m
 ·by_cases hi:k=i
  ·subst hi;simp[Q3,h,hv]
  ·have:decide (i<k+1)=decide (i<k):=decide_eq_decide.2 (by omega)
   simp[Q3,h,hi,this]
 ·by_cases hi:k=i
  ·subst hi;simp[Q3,h]
  ·simp[Q3,h,hi]
theorem G0 {m k:Nat} {f:Nat→Bool} (hv:f k=false):Q3 m k f=Q3 m (k+1) f:=by
 refine List.ext_getElem? fun i=>?_
 by_cases h:i<m
 ·by_cases hi:i=k
  ·subst hi;simp[Q3,h,hv]
  ·have:decide (i<k+1)=decide (i<k):=decide_eq_decide.2 (by omega)
   simp[Q3,h,this]
 ·simp[Q3,h]
theorem xF (m:Nat):(List.replicate m (AV.b false)).set 0 (.b true)=Q3 m m fun k=>decide (k=0):=by
 refine List.ext_getElem? fun i=>?_
 rw[List.getElem?_set]
 by_cases h:i<m
 ·cases i with
  | zero=>simp[Q3,h]
  | succ i=>simp[Q3,h]
 ·cases i with
  | zero=>simp[Q3,h]
  | succ i=>simp[Q3,h]
@[simp] theorem zjv (m k:Nat) (f:Nat→Bool):AV.ers (Q3 m k f)=Q3 m k f:=by
 rw[AV.ers_eq,Q3,List.map_map]
 exact List.map_congr_left fun a _=>by simp[AV.er]
@[simp] theorem zoQ (m k:Nat) (f:Nat→Bool):AV.erks (Q3 m k f)=Q3 m k f:=XQ _ (zjv m k f)
noncomputable def zGm (m k:Nat) (f:Nat→Bool):HObj:=.var (.arr m 4) (.agg (Q3 m k f))
set_option maxHeartbeats 8000000 in
theorem zlo (p s:List UInt8) (hp:p.length≤1000000000) (hs:s.length≤1000000000):PC Tryz.prog 120 [.av .str (.s p),.av .str (.s s)] (.av .bool (.b (wV p s))):=by
 refine PC.of (q7.sub (R:=fun r _=>r=.av .bool (.b (wV p s))) ?_ fun r H' h _=>⟨[],HSub.of_sub (List.nil_sublist _),h⟩)
 refine zov Tryz.func120 cf0 fun imm0 w0=>?_
 obtain⟨m,hm⟩:∃m,m=s.length+1:=⟨_,rfl⟩
 have hmI:(s.length:Int)+1=m:=by omega
 have hmn:s.length+1=m:=hm.symm
 have hm0:0<m:=by omega
 have hm0':(0:Int)<m:=by omega
 simp (disch:=omega) [zz,hmI,hmn,hm0,hm0',xF]
 refine⟨by omega,by omega,?_⟩
 intro b0
 refine AT.loopV (α:=Nat × Nat × (Nat→Bool)) (fun x ver=>St.of [(0,.av .str (.s p)),(1,.av .str (.s s)),(5,.av (.slice 4) (.msl x.2.1 4 0 m m)),(6,.av (.int .i64) (.i .i64 x.1))] [] ver [(x.2.1,zGm m m x.2.2)])
  (fun x=>x.1≤p.length∧(wV p s=true↔Led (wV (p.drop x.1)) s x.2.2)) (fun x=>p.length-x.1) (0,b0,fun k=>decide (k=0)) ?_ ?_ ?_
 ·apply Le.of<;>simp[qU,qG,qO,qH,qP,qK,qF,qI,qJ,qN,zGm,xF]<;>try omega
 ·exact⟨by omega,by simpa using(zd6 (wV p) s).symm⟩
 rintro⟨i,b,at_⟩ ver ⟨hi,hled⟩ KL hN hE
 simp only at hi hled hN
 refine qM (cf:=cf0) laid mixed _ _ _ (by kernel_rfl) ?_
 by_cases hlt:i<p.length
 rotate_left
 ·have hlt':¬(i:Int)<p.length:=by omega
  rw[List.drop_of_length_le (by omega),ziQ]at hled
  have hr:wV p s=at_ s.length:=Bool.eq_iff_iff.2 hled
  have hg:=Z9 at_ (show s.length<m by omega) (show s.length<m by omega)
  have hsm:s.length<m:=by omega
  have hsm':(s.length:Int)<m:=by omega
  simp (disch:=omega) [zz,hlt']
  refine hE _ _ (by simp) ?_
  simp (disch:=omega) [zz,Tryz.f120,zGm,jN,hg,hr,hsm,hsm']
 have hlt':(i:Int)<p.length:=by omega
 obtain⟨c,hc⟩:∃c,c=p[i]:=⟨_,rfl⟩
 have hpc:p[i]=c:=hc.symm
 rw[List.drop_eq_getElem_cons hlt,hpc,zlC]at hled
 simp (disch:=omega) [zz,hlt',hmI,hmn,zGm]
 refine⟨by omega,by omega,?_⟩
 intro b7 hb7
 have hb7':¬b=b7:=fun e=>hb7 e.symm
 obtain⟨f,hf⟩:∃f,f=ziM c s at_:=⟨_,rfl⟩
 rw[←hf]at hled
 refine AT.loopV (α:=Nat) (fun k ver=>St.of [(0,.av .str (.s p)),(1,.av .str (.s s)),(5,.av (.slice 4) (.msl b 4 0 m m)),(6,.av (.int .i64) (.i .i64 i)),(7,.av (.slice 4) (.msl b7 4 0 m m)),(8,.av (.int .i64) (.i .i64 k))] [] ver [(b7,zGm m k f),(b,zGm m m at_)])
  (fun k=>k≤m) (fun k=>m-k) 0 ?_ ?_ ?_
 ·apply Le.of<;>simp[qU,qG,qO,qH,qP,qK,qF,qI,qJ,qN,zGm,zaF m f]<;>try omega
 ·omega
 rintro k ver2 hk KL2 hN2 hE2
 refine qM (cf:=cf0) laid mixed _ _ _ (by kernel_rfl) ?_
 by_cases hkm:k<m
 rotate_left
 ·have hkm':¬(k:Int)≤s.length:=by omega
  have hke:k=m:=by omega
  subst hke
  simp (disch:=omega) [zz,hkm']
  refine hE2 _ _ (by simp) ?_
  simp (disch:=omega) [zz]
  refine hN _ (i+1,b7,f) ?_ ⟨by omega,hled⟩ (by simp only;omega)
  apply Le.of<;>simp[qU,qG,qO,qH,qP,qK,qF,qI,qJ,qN,zGm]<;>try omega
 have hkm':(k:Int)<m:=by omega
 have hks:(k:Int)≤s.length:=by omega
 have hgA:=Z9 at_ hkm hkm
 have j1:∀v,f k=v→(Q3 m k f).set k (.b v)=Q3 m (k+1) f:=fun v h=>zcZ h
 by_cases h42:c=42
 ·subst h42
  have hfs:f=VK at_:=by rw[hf,ziM,if_pos rfl]
  cases k with
  | zero =>
   have hz:(0:Int)≤s.length:=by omega
   have hst:=j1 (at_ 0) (by rw[hfs];rfl)
   cases ha:at_ 0
   ·rw[ha]at hgA hst
    simp (disch:=omega) [zz,zGm,jN,hlt,hlt',hpc,hks,hkm,hkm',hz,hm0,hm0',hgA,hst,hb7,hb7']
    try (repeat with_reducible refine om ?_)
    refine hN2 _ 1 ?_ (by omega) (by omega)
    apply Le.of<;>simp[qU,qG,qO,qH,qP,qK,qF,qI,qJ,qN,zGm,hst]<;>try omega
   ·rw[ha]at hgA hst
    simp (disch:=omega) [zz,zGm,jN,hlt,hlt',hpc,hks,hkm,hkm',hz,hm0,hm0',hgA,hst,hb7,hb7']
    try (repeat with_reducible refine om ?_)
    refine hN2 _ 1 ?_ (by omega) (by omega)
    apply Le.of<;>simp[qU,qG,qO,qH,qP,qK,qF,qI,qJ,qN,zGm,hst]<;>try omega
  | succ j =>
   have hj:j<m:=by omega
   have hj':(j:Int)<m:=by omega
   have hj1:(j:Int)+1<m:=by omega
   have hj2:(j:Int)+1≤s.length:=by omega
   have hj3:(j:Int)+1-1=j:=by omega
   have hj4:(0:Int)<(j:Int)+1:=by omega
   have hj5:(0:Int)≤(j:Int)+1:=by omega
   have hgB:=Z9 f hj (show j<j+1 by omega)
   have hst:=j1 (at_ (j+1)||f j) (by rw[hfs];rfl)
   cases ha:at_ (j+1)
   ·rw[ha]at hgA hst
    rw[Bool.false_or]at hst
    cases hb:f j
    ·rw[hb]at hgB hst
     simp (disch:=omega) [zz,zGm,jN,hlt,hlt',hpc,hks,hkm,hkm',hj,hj',hj1,hj2,hj3,hj4,hj5,hgA,hgB,hst,hb7,hb7']
     try (repeat with_reducible refine om ?_)
     refine hN2 _ (j+1+1) ?_ (by omega) (by omega)
     apply Le.of<;>simp[qU,qG,qO,qH,qP,qK,qF,qI,qJ,qN,zGm,hst]<;>try omega
    ·rw[hb]at hgB hst
     simp (disch:=omega) [zz,zGm,jN,hlt,hlt',hpc,hks,hkm,hkm',hj,hj',hj1,hj2,hj3,hj4,hj5,hgA,hgB,hst,hb7,hb7']
     try (repeat with_reducible refine om ?_)
     refine hN2 _ (j+1+1) ?_ (by omega) (by omega)
     apply Le.of<;>simp[qU,qG,qO,qH,qP,qK,qF,qI,qJ,qN,zGm,hst]<;>try omega
   ·rw[ha]at hgA hst
    rw[Bool.true_or]at hst
    simp (disch:=omega) [zz,zGm,jN,hlt,hlt',hpc,hks,hkm,hkm',hj,hj',hj1,hj2,hj3,hj4,hj5,hgA,hst,hb7,hb7']
    try (repeat with_reducible refine om ?_)
    refine hN2 _ (j+1+1) ?_ (by omega) (by omega)
    apply Le.of<;>simp[qU,qG,qO,qH,qP,qK,qF,qI,qJ,qN,zGm,hst]<;>try omega
 have h42':¬(c.toNat:Int)=42:=by have:=YH (n:=42) (by omega) h42;simpa using this
 have hfl:f=zbv (fun x=>decide (c=63)||decide (c=x)) s at_:=by rw[hf,ziM,if_neg h42]
 cases k with
 | zero =>
  have hz:(0:Int)≤s.length:=by omega
  have hsk:Q3 m 0 f=Q3 m 1 f:=G0 (by rw[hfl];rfl)
  simp (disch:=omega) [zz,zGm,jN,hlt,hlt',hpc,h42,h42',hks,hkm,hkm',hz,hm0,hm0']
  try (repeat with_reducible refine om ?_)
  refine hN2 _ 1 ?_ (by omega) (by omega)
  apply Le.of<;>simp[qU,qG,qO,qH,qP,qK,qF,qI,qJ,qN,zGm,hsk]<;>try omega
 | succ j =>
  have hj:j<m:=by omega
  have hjs:j<s.length:=by omega
  have hjs':(j:Int)<s.length:=by omega
  have hj':(j:Int)<m:=by omega
  have hj1:(j:Int)+1<m:=by omega
  have hj2:(j:Int)+1≤s.length:=by omega
  have hj3:(j:Int)+1-1=j:=by omega
  have hj4:(0:Int)<(j:Int)+1:=by omega
  have hj5:(0:Int)≤(j:Int)+1:=by omega
  have hgJ:=Z9 at_ hj hj
  obtain⟨d,hd⟩:∃d,d=s[j]:=⟨_,rfl⟩
  have hsd:s[j]=d:=hd.symm
  have hfk:f (j+1)=(at_ j&&(decide (c=63)||decide (c=d))):=by
   rw[hfl];simp only[zbv,List.getElem?_eq_getElem hjs,hsd]
  cases ha:at_ j
  ·rw[ha]at hgJ hfk
   have hsk:Q3 m (j+1) f=Q3 m (j+1+1) f:=G0 (by rw[hfk];rfl)
   simp (disch:=omega) [zz,zGm,jN,hlt,hlt',hpc,h42,h42',hks,hkm,hkm',hj,hj',hj1,hj2,hj3,hj4,hj5,hgJ,hb7,hb7']
   try (repeat with_reducible refine om ?_)
   refine hN2 _ (j+1+1) ?_ (by omega) (by omega)
   apply Le.of<;>simp[qU,qG,qO,qH,qP,qK,qF,qI,qJ,qN,zGm,hsk]<;>try omega
  rw[ha]at hgJ hfk
  by_cases h63:c=63
  ·subst h63
   have hst:=j1 true (by rw[hfk];rfl)
   simp (disch:=omega) [zz,zGm,jN,hlt,hlt',hpc,hks,hkm,hkm',hj,hj',hj1,hj2,hj3,hj4,hj5,hgJ,hst,hb7,hb7']
   try (repeat with_reducible refine om ?_)
   refine hN2 _ (j+1+1) ?_ (by omega) (by omega)
   apply Le.of<;>simp[qU,qG,qO,qH,qP,qK,qF,qI,qJ,qN,zGm,hst]<;>try omega
  have h63':¬(c.toNat:Int)=63:=by have:=YH (n:=63) (by omega) h63;simpa using this
  by_cases hcd:c=d
  ·have hst:=j1 true (by rw[hfk,decide_eq_true hcd];simp)
   have hsc:s[j]=c:=by rw[hsd,hcd]
   simp (disch:=omega) [zz,zGm,jN,hlt,hlt',hpc,h42,h42',h63,h63',hsc,hjs,hjs',hks,hkm,hkm',hj,hj',hj1,hj2,hj3,hj4,hj5,hgJ,hst,hb7,hb7']
   try (repeat with_reducible refine om ?_)
   refine hN2 _ (j+1+1) ?_ (by omega) (by omega)
   apply Le.of<;>simp[qU,qG,qO,qH,qP,qK,qF,qI,qJ,qN,zGm,hst]<;>try omega
  ·have hcd':¬(c.toNat:Int)=d.toNat:=fun h=>hcd (UInt8.toNat_inj.1 (by omega))
   have hcd2:¬c.toNat=d.toNat:=fun h=>hcd (UInt8.toNat_inj.1 h)
   have hsk:Q3 m (j+1) f=Q3 m (j+1+1) f:=G0 (by rw[hfk];simp[h63,hcd])
   simp (disch:=omega) [zz,zGm,jN,hlt,hlt',hpc,h42,h42',h63,h63',hsd,hcd,hcd',hcd2,hjs,hjs',hks,hkm,hkm',hj,hj',hj1,hj2,hj3,hj4,hj5,hgJ,hb7,hb7']
   try (repeat with_reducible refine om ?_)
   refine hN2 _ (j+1+1) ?_ (by omega) (by omega)
   apply Le.of<;>simp[qU,qG,qO,qH,qP,qK,qF,qI,qJ,qN,zGm,hsk]<;>try omega
end Go.Proofs.YtooipdkilgpojaaGreatDoor
end
section
set_option maxRecDepth 100000
namespace Go.Proofs.YtooipdkilgpojaaGreatDoor
open Go Go.Ab
open Classical
variable [Sel] [SelPow] [SelMax]
set_option maxHeartbeats 8000000 in
theorem zgK (p s:Txt) (hp:p.length≤1000000) (hs:s.length≤1000000):PC Tryz.prog 75 [.av .str (.s p),.av .str (.s s)] (.av .bool (.b (wL p s))):=by
 refine PC.of (q7.sub (R:=fun r _=>r=.av .bool (.b (wL p s))) ?_ fun r H' h _=>⟨[],HSub.of_sub (List.nil_sublist _),h⟩)
 refine zov Tryz.func75 cf0 fun imm0 w0=>?_
 simp (disch:=omega) [zz]
 refine zcv (ziX p hp) ?_
 cases hpv:PZ p
 ·have hr:wL p s=false:=by simp[wL,hpv]
  simp (disch:=omega) [zz,Tryz.f75,hr]
 simp (disch:=omega) [zz]
 try (repeat with_reducible refine om ?_)
 refine zcv (zl8 s (by omega)) ?_
 cases hsv:yV s
 ·have hr:wL p s=false:=by simp[wL,hsv]
  simp (disch:=omega) [zz,Tryz.f75,hr]
 obtain⟨ps,hps⟩:∃ps,ps=qT 47 p:=⟨_,rfl⟩
 obtain⟨ns,hns⟩:∃ns,ns=qT 47 s:=⟨_,rfl⟩
 have hmv:wL p s=kE ps ns:=by simp[wL,hpv,hsv,←hps,←hns]
 have hpl:∀x∈ps,x.length≤p.length:=by rw[hps];exact fun x hx=>kU 47 p x hx
 have hnl:∀x∈ns,x.length≤s.length:=by rw[hns];exact fun x hx=>kU 47 s x hx
 have hpn:=QQ 47 p
 have hnn:=QQ 47 s
 rw[←hps]at hpn
 rw[←hns]at hnn
 simp (disch:=omega) [zz]
 refine zcv (u9 p (by omega)) ?_
 rw[←hps]
 simp (disch:=omega) [zz]
 refine zcv (u9 s (by omega)) ?_
 rw[←hns]
 obtain⟨m,hm⟩:∃m,m=ns.length+1:=⟨_,rfl⟩
 have hmI:(ns.length:Int)+1=m:=by omega
 have hmn:ns.length+1=m:=hm.symm
 have hm0:0<m:=by omega
 have hm0':(0:Int)<m:=by omega
 simp (disch:=omega) [zz,qX,hmI,hmn,hm0,hm0',xF]
 refine⟨by omega,by omega,?_⟩
 intro b0
 refine AT.loopV (α:=Nat × Nat × (Nat→Bool)) (fun x ver=>St.of [(5,.av (.slice 9) (.sl .no (strs ps))),(6,.av (.slice 9) (.sl .no (strs ns))),(7,.av (.slice 4) (.msl x.2.1 4 0 m m)),(30,.av (.slice 9) (.sl .no (strs ps))),(31,.av (.int .i64) (.i .i64 ps.length)),(32,.av (.int .i64) (.i .i64 x.1))] [] ver [(x.2.1,zGm m m x.2.2)])
  (fun x=>x.1≤ps.length∧(kE ps ns=true↔Led (kE (ps.drop x.1)) ns x.2.2)) (fun x=>ps.length-x.1) (0,b0,fun k=>decide (k=0)) ?_ ?_ ?_
 ·apply Le.of<;>simp[qU,qG,qO,qH,qP,qK,qF,qI,qJ,qN,zGm,xF]<;>try omega
 ·exact⟨by omega,by simpa using(zd6 (kE ps) ns).symm⟩
 rintro⟨i,b,at_⟩ ver ⟨hi,hled⟩ KL hN hE
 simp only at hi hled hN
 refine qM (cf:=cf0) laid mixed _ _ _ (by kernel_rfl) ?_
 by_cases hlt:i<ps.length
 rotate_left
 ·have hlt':¬(i:Int)<ps.length:=by omega
  rw[List.drop_of_length_le (by omega),zhq]at hled
  have hr:wL p s=at_ ns.length:=hmv.trans (Bool.eq_iff_iff.2 hled)
  have hg:=Z9 at_ (show ns.length<m by omega) (show ns.length<m by omega)
  have hsm:ns.length<m:=by omega
  have hsm':(ns.length:Int)<m:=by omega
  simp (disch:=omega) [zz,hlt']
  refine hE _ _ (by simp) ?_
  simp (disch:=omega) [zz,Tryz.f75,zGm,jN,qX,hg,hr,hsm,hsm']
 have hlt':(i:Int)<ps.length:=by omega
 obtain⟨x,hx⟩:∃x,x=ps[i]:=⟨_,rfl⟩
 have hgx:(strs ps)[i]?=some (.s x):=by rw[yH ps i hlt,hx]
 have hxl:x.length≤1000000:=by have:=hpl x (by rw[hx];exact List.getElem_mem _);omega
 rw[List.drop_eq_getElem_cons hlt,←hx,ziO]at hled
 simp (disch:=omega) [zz,hlt',hlt,hgx,qX,hmI,hmn,zGm]
 refine⟨by omega,by omega,?_⟩
 intro b7 hb7
 have hb7':¬b=b7:=fun e=>hb7 e.symm
 obtain⟨f,hf⟩:∃f,f=zaa x (ps.drop (i+1)).isEmpty ns at_:=⟨_,rfl⟩
 rw[←hf]at hled
 refine AT.loopV (α:=Nat) (fun k ver=>St.of [(5,.av (.slice 9) (.sl .no (strs ps))),(6,.av (.slice 9) (.sl .no (strs ns))),(7,.av (.slice 4) (.msl b 4 0 m m)),(8,.av (.int .i64) (.i .i64 i)),(9,.av .str (.s x)),(30,.av (.slice 9) (.sl .no (strs ps))),(31,.av (.int .i64) (.i .i64 ps.length)),(32,.av (.int .i64) (.i .i64 i)),(10,.av (.slice 4) (.msl b7 4 0 m m)),(11,.av (.int .i64) (.i .i64 k))] [] ver [(b7,zGm m k f),(b,zGm m m at_)])
  (fun k=>k≤m) (fun k=>m-k) 0 ?_ ?_ ?_
 ·apply Le.of<;>simp[qU,qG,qO,qH,qP,qK,qF,qI,qJ,qN,zGm,zaF m f]<;>try omega
 ·omega
 rintro k ver2 hk KL2 hN2 hE2
 refine qM (cf:=cf0) laid mixed _ _ _ (by kernel_rfl) ?_
 by_cases hkm:k<m
 rotate_left
 ·have hkm':¬(k:Int)≤ns.length:=by omega
  have hke:k=m:=by omega
  subst hke
  simp (disch:=omega) [zz,qX,hkm']
  refine hE2 _ _ (by simp) ?_
  simp (disch:=omega) [zz]
  refine hN _ (i+1,b7,f) ?_ ⟨by omega,hled⟩ (by simp only;omega)
  apply Le.of<;>simp[qU,qG,qO,qH,qP,qK,qF,qI,qJ,qN,zGm]<;>try omega
 have hkm':(k:Int)<m:=by omega
 have hks:(k:Int)≤ns.length:=by omega
 have hgA:=Z9 at_ hkm hkm
 have j1:∀v,f k=v→(Q3 m k f).set k (.b v)=Q3 m (k+1) f:=fun v h=>zcZ h
 by_cases h0:x=[42,42]
 ·by_cases hla:i+1=ps.length
  ·have hla':(i:Int)=(ps.length:Int)-1:=by omega
   have hfs:f=cA at_:=by
    rw[hf,zaa,if_pos h0,List.drop_of_length_le (by omega)];rfl
   cases k with
   | zero =>
    have hz:(0:Int)≤ns.length:=by omega
    have hst:=j1 false (by rw[hfs];rfl)
    simp (disch:=omega) [zz,qX,zGm,jN,h0,hla',hks,hkm,hkm',hz,hm0,hm0',hst,hb7,hb7']
    try (repeat with_reducible refine om ?_)
    refine hN2 _ 1 ?_ (by omega) (by omega)
    apply Le.of<;>simp[qU,qG,qO,qH,qP,qK,qF,qI,qJ,qN,zGm,hst,h0]<;>try omega
   | succ j =>
    have hj:j<m:=by omega
    have hj':(j:Int)<m:=by omega
    have hj1:(j:Int)+1<m:=by omega
    have hj2:(j:Int)+1≤ns.length:=by omega
    have hj3:(j:Int)+1-1=j:=by omega
    have hj4:(0:Int)<(j:Int)+1:=by omega
    have hj5:(0:Int)≤(j:Int)+1:=by omega
    have hgJ:=Z9 at_ hj hj
    have hgB:=Z9 f hj (show j<j+1 by omega)
    have hst:=j1 (at_ j||f j) (by rw[hfs];rfl)
    cases ha:at_ j
    ·rw[ha]at hgJ hst
     rw[Bool.false_or]at hst
     cases hb:f j
     ·rw[hb]at hgB hst
      simp (disch:=omega) [zz,qX,zGm,jN,h0,hla',hks,hkm,hkm',hj,hj',hj1,hj2,hj3,hj4,hj5,hgJ,hgB,hst,hb7,hb7']
      try (repeat with_reducible refine om ?_)
      refine hN2 _ (j+1+1) ?_ (by omega) (by omega)
      apply Le.of<;>simp[qU,qG,qO,qH,qP,qK,qF,qI,qJ,qN,zGm,hst,h0]<;>try omega
     ·rw[hb]at hgB hst
      simp (disch:=omega) [zz,qX,zGm,jN,h0,hla',hks,hkm,hkm',hj,hj',hj1,hj2,hj3,hj4,hj5,hgJ,hgB,hst,hb7,hb7']
      try (repeat with_reducible refine om ?_)
      refine hN2 _ (j+1+1) ?_ (by omega) (by omega)
      apply Le.of<;>simp[qU,qG,qO,qH,qP,qK,qF,qI,qJ,qN,zGm,hst,h0]<;>try omega
    ·rw[ha]at hgJ hst
     rw[Bool.true_or]at hst
     simp (disch:=omega) [zz,qX,zGm,jN,h0,hla',hks,hkm,hkm',hj,hj',hj1,hj2,hj3,hj4,hj5,hgJ,hst,hb7,hb7']
     try (repeat with_reducible refine om ?_)
     refine hN2 _ (j+1+1) ?_ (by omega) (by omega)
     apply Le.of<;>simp[qU,qG,qO,qH,qP,qK,qF,qI,qJ,qN,zGm,hst,h0]<;>try omega
  ·have hla':¬(i:Int)=(ps.length:Int)-1:=by omega
   have hfs:f=VK at_:=by
    have:(ps.drop (i+1)).isEmpty=false:=by
     rw[List.drop_eq_getElem_cons (show i+1<ps.length by omega)];rfl
    rw[hf,zaa,if_pos h0,this];rfl
   cases k with
   | zero =>
    have hz:(0:Int)≤ns.length:=by omega
    have hst:=j1 (at_ 0) (by rw[hfs];rfl)
    cases ha:at_ 0
    ·rw[ha]at hgA hst
     simp (disch:=omega) [zz,qX,zGm,jN,h0,hla',hks,hkm,hkm',hz,hm0,hm0',hgA,hst,hb7,hb7']
     try (repeat with_reducible refine om ?_)
     refine hN2 _ 1 ?_ (by omega) (by omega)
     apply Le.of<;>simp[qU,qG,qO,qH,qP,qK,qF,qI,qJ,qN,zGm,hst,h0]<;>try omega
    ·rw[ha]at hgA hst
     simp (disch:=omega) [zz,qX,zGm,jN,h0,hla',hks,hkm,hkm',hz,hm0,hm0',hgA,hst,hb7,hb7']
     try (repeat with_reducible refine om ?_)
     refine hN2 _ 1 ?_ (by omega) (by omega)
     apply Le.of<;>simp[qU,qG,qO,qH,qP,qK,qF,qI,qJ,qN,zGm,hst,h0]<;>try omega
   | succ j =>
    have hj:j<m:=by omega
    have hj':(j:Int)<m:=by omega
    have hj1:(j:Int)+1<m:=by omega
    have hj2:(j:Int)+1≤ns.length:=by omega
    have hj3:(j:Int)+1-1=j:=by omega
    have hj4:(0:Int)<(j:Int)+1:=by omega
    have hj5:(0:Int)≤(j:Int)+1:=by omega
    have hgB:=Z9 f hj (show j<j+1 by omega)
    have hst:=j1 (at_ (j+1)||f j) (by rw[hfs];rfl)
    cases ha:at_ (j+1)
    ·rw[ha]at hgA hst
     rw[Bool.false_or]at hst
     cases hb:f j
     ·rw[hb]at hgB hst
      simp (disch:=omega) [zz,qX,zGm,jN,h0,hla',hks,hkm,hkm',hj,hj',hj1,hj2,hj3,hj4,hj5,hgA,hgB,hst,hb7,hb7']
      try (repeat with_reducible refine om ?_)
      refine hN2 _ (j+1+1) ?_ (by omega) (by omega)
      apply Le.of<;>simp[qU,qG,qO,qH,qP,qK,qF,qI,qJ,qN,zGm,hst,h0]<;>try omega
     ·rw[hb]at hgB hst
      simp (disch:=omega) [zz,qX,zGm,jN,h0,hla',hks,hkm,hkm',hj,hj',hj1,hj2,hj3,hj4,hj5,hgA,hgB,hst,hb7,hb7']
      try (repeat with_reducible refine om ?_)
      refine hN2 _ (j+1+1) ?_ (by omega) (by omega)
      apply Le.of<;>simp[qU,qG,qO,qH,qP,qK,qF,qI,qJ,qN,zGm,hst,h0]<;>try omega
    ·rw[ha]at hgA hst
     rw[Bool.true_or]at hst
     simp (disch:=omega) [zz,qX,zGm,jN,h0,hla',hks,hkm,hkm',hj,hj',hj1,hj2,hj3,hj4,hj5,hgA,hst,hb7,hb7']
     try (repeat with_reducible refine om ?_)
     refine hN2 _ (j+1+1) ?_ (by omega) (by omega)
     apply Le.of<;>simp[qU,qG,qO,qH,qP,qK,qF,qI,qJ,qN,zGm,hst,h0]<;>try omega
 have hfl:f=zbv (wV x) ns at_:=by rw[hf,zaa,if_neg h0]
 cases k with
 | zero =>
  have hz:(0:Int)≤ns.length:=by omega
  have hst:=j1 false (by rw[hfl];rfl)
  simp (disch:=omega) [zz,qX,zGm,jN,h0,hks,hkm,hkm',hz,hm0,hm0',hst,hb7,hb7']
  try (repeat with_reducible refine om ?_)
  refine hN2 _ 1 ?_ (by omega) (by omega)
  apply Le.of<;>simp[qU,qG,qO,qH,qP,qK,qF,qI,qJ,qN,zGm,hst]<;>try omega
 | succ j =>
  have hj:j<m:=by omega
  have hjs:j<ns.length:=by omega
  have hjs':(j:Int)<ns.length:=by omega
  have hj':(j:Int)<m:=by omega
  have hj1:(j:Int)+1<m:=by omega
  have hj2:(j:Int)+1≤ns.length:=by omega
  have hj3:(j:Int)+1-1=j:=by omega
  have hj4:(0:Int)<(j:Int)+1:=by omega
  have hj5:(0:Int)≤(j:Int)+1:=by omega
  have hgJ:=Z9 at_ hj hj
  obtain⟨y,hy⟩:∃y,y=ns[j]:=⟨_,rfl⟩
  have hgy:(strs ns)[j]?=some (.s y):=by rw[yH ns j hjs,hy]
  have hyl:y.length≤1000000:=by have:=hnl y (by rw[hy];exact List.getElem_mem _);omega
  have hfk:f (j+1)=(at_ j&&wV x y):=by
   rw[hfl];simp only[zbv,List.getElem?_eq_getElem hjs,←hy]
  cases ha:at_ j
  ·rw[ha]at hgJ hfk
   have hst:=j1 false (by rw[hfk];rfl)
   simp (disch:=omega) [zz,qX,zGm,jN,h0,hks,hkm,hkm',hj,hj',hj1,hj2,hj3,hj4,hj5,hgJ,hst,hb7,hb7']
   try (repeat with_reducible refine om ?_)
   refine hN2 _ (j+1+1) ?_ (by omega) (by omega)
   apply Le.of<;>simp[qU,qG,qO,qH,qP,qK,qF,qI,qJ,qN,zGm,hst]<;>try omega
  rw[ha,Bool.true_and]at hfk
  rw[ha]at hgJ
  have hst:=j1 _ hfk
  simp (disch:=omega) [zz,qX,zGm,jN,h0,hgy,hjs,hjs',hks,hkm,hkm',hj,hj',hj1,hj2,hj3,hj4,hj5,hgJ,hb7,hb7']
  try (repeat with_reducible refine om ?_)
  refine zcv (zlo x y (by omega) (by omega)) ?_
  simp (disch:=omega) [zz,qX,zGm,jN,h0,hgy,hjs,hjs',hks,hkm,hkm',hj,hj',hj1,hj2,hj3,hj4,hj5,hgJ,hst,hb7,hb7']
  try (repeat with_reducible refine om ?_)
  refine hN2 _ (j+1+1) ?_ (by omega) (by omega)
  apply Le.of<;>simp[qU,qG,qO,qH,qP,qK,qF,qI,qJ,qN,zGm,hst]<;>try omega
end Go.Proofs.YtooipdkilgpojaaGreatDoor
end
